/- Small things. -/
import Derived.Test.YtmmbgjmigmchbaaGreatDoorNa8
import Derived.Test.YtmmbgjmigmchbaaGreatDoorNa6
import Derived.Test.YtmmbgjmigmchbaaGreatDoorNa7
import Derived.Test.YtmmbgjmigmchbaaGreatDoorNa2
namespace Go.Proofs.YtmmbgjmigmchbaaGreatDoorAbs
set_option linter.unusedSimpArgs false
set_option linter.unusedVariables false
open Go Go.RowKit Go.Proofs
set_option maxRecDepth 100000
set_option maxHeartbeats 4000000
theorem EU (b:Bd) (v:Ver) (hb:b.ver.pre.size≤1000000) (hv:v.pre.size≤1000000):CallsOK Tryz.prog 206 [.agg b.cells,.agg v.cells] (bV (holdB v b)) []:=by
 refine aO mixed Tryz.call206 Tryz.func206 rfl (by rw[Tryz.ntmps206];simp) ?_ rfl;rw[Tryz.ntmps206];refine aR fun K' hK=> ?_
 simp;apply hK;clear K' hK;refine aR fun K' hK=> ?_
 simp;refine aj (mO v b.ver hv hb) rfl (by simp) ?_;simp;apply hK;clear K' hK;apply aA;refine aR fun K' hK=> ?_
 simp;apply hK;clear K' hK;have hd:holdB v b=opN b.op (dW v b.ver):=rfl;generalize dW v b.ver=c at*;apply aB
 by_cases h1:b.op=1
 ·skip;refine aR fun K' hK=> ?_
  simp[h1];apply hK;clear K' hK;refine aU (by simp[h1]) ?_;apply aA;refine aR fun K' hK=> ?_
  simp;apply hK;clear K' hK;apply aJ
  simp[au,aF,Post,bC,res1,bF,bg,aP,bf,aW,okT,okA,ok1,rowOf,Tryz.f206];simp[hd,opN,h1]
 ·skip;refine aR fun K' hK=> ?_
  simp[h1];apply hK;clear K' hK;refine aV (by simp[h1]) ?_
  by_cases h2:b.op=2
  ·refine aA ?_;refine aR fun K' hK=> ?_
   simp[h2];apply hK;clear K' hK;refine aX (by simp[h2]) ?_;apply aA;refine aR fun K' hK=> ?_
   simp;apply hK;clear K' hK;apply aJ
   simp[au,aF,Post,bC,res1,bF,bg,aP,bf,aW,okT,okA,ok1,rowOf,Tryz.f206];simp[hd,opN,h2]
  ·refine aA ?_;refine aR fun K' hK=> ?_
   simp[h2];apply hK;clear K' hK;refine aY (by simp[h2]) ?_
   by_cases h3:b.op=3
   ·refine aA ?_;refine aR fun K' hK=> ?_
    simp[h3];apply hK;clear K' hK;refine aX (by simp[h3]) ?_;apply aA;refine aR fun K' hK=> ?_
    simp;apply hK;clear K' hK;apply aJ
    simp[au,aF,Post,bC,res1,bF,bg,aP,bf,aW,okT,okA,ok1,rowOf,Tryz.f206];simp[hd,opN,h3]
   ·refine aA ?_;refine aR fun K' hK=> ?_
    simp[h3];apply hK;clear K' hK;refine aY (by simp[h3]) ?_
    by_cases h4:b.op=4
    ·refine aA ?_;refine aR fun K' hK=> ?_
     simp[h4];apply hK;clear K' hK;refine aX (by simp[h4]) ?_;apply aA;refine aR fun K' hK=> ?_
     simp;apply hK;clear K' hK;apply aJ
     simp[au,aF,Post,bC,res1,bF,bg,aP,bf,aW,okT,okA,ok1,rowOf,Tryz.f206];simp[hd,opN,h4]
    ·refine aA ?_;refine aR fun K' hK=> ?_
     simp[h4];apply hK;clear K' hK;refine aYk (by simp[h4]) ?_;apply ak
     refine ah ?_;refine aR fun K' hK=> ?_
     simp;apply hK;clear K' hK;apply aG
     simp[au,aF,Post,bC,res1,bF,bg,aP,bf,aW,okT,okA,ok1,rowOf,Tryz.f206];simp[hd,opN,h1,h2,h3,h4]
theorem RN (v:Ver) (b:Bd):nH v b=(decide (b.ver.pre≠⟨#[]⟩)&&(decide (b.ver.maj=v.maj)&&(decide (b.ver.min=v.min)&&decide (b.ver.pat=v.pat)))):=by
 rw[Bool.eq_iff_iff];unfold nH;cases v with | mk a c d e=>simp
theorem JX (l:Alt) (v:Ver) (hl:Alt.sz l) (hv:v.pre.size≤1000000):CallsOK Tryz.prog 172 [rowT Bd.cells l,.agg v.cells] (bV (fG v l)) []:=by
 refine aO mixed Tryz.call172 Tryz.func172 rfl (by rw[Tryz.ntmps172];simp) ?_ rfl;rw[Tryz.ntmps172];have hll:=hl.1;refine aR fun K' hK=> ?_
 simp;apply hK;clear K' hK;refine aR fun K' hK=> ?_
 simp;apply hK;clear K' hK;apply aA;refine aR fun K' hK=> ?_
 simp;apply hK;clear K' hK;apply aB
 refine bI (fun s G nx=>G 0=some (.var 23 v.cells)∧s 3=.ptr 0 0∧s 0=rowT Bd.cells l∧∃j:Nat,s 6=iV j∧j≤l.length∧s 5=bV (decide (v.pre=⟨#[]⟩) || (l.take j).any (nH v))∧(l.take j).all (holdB v)=true) (fun s _ _=>match s 6 with | .v (.int _ n)=>l.length-n.toNat | _=>0) ?_ ?_
 ·exact⟨by simp,by simp,by simp,0,by simp,by omega,by simp,by simp⟩
 ·rintro s G nx hf ⟨g0,s3,s0,j,s6,hj,s5,hjt⟩;have n0:¬0=nx:=(by have:=cO hf g0;omega);have hwj:IntKind.i64.wrap (↑j+1)=((j+1:Nat):Int):=dw (by omega);apply aA;refine aR fun K' hK=> ?_
  simp[s0,s6];apply hK;clear K' hK;refine aC fun A B hA hB=> ?_
  simp;refine⟨fun hj2=>hA ?_,fun hj2=>hB ?_⟩<;>clear hA hB A B<;>(try simp at hj2)<;>(try with_reducible refine aK ?_)
  ·have hjstep:=iR (p:=holdB v) hj2;have hnstep:=lC (p:=nH v) hj2;have hjfalse:holdB v (nth l j)=false→fG v l=false:=fun h=>(by rw[fG,all_false hj2 h];rfl);have hbz:=hl.2 _ (bK hj2);have hnear:=RN v (nth l j);generalize hgb:nth l j=b at*;apply aB;refine aR fun K' hK=> ?_
   simp[s0,s6,hj2,hgb];apply hK;clear K' hK;apply aA;refine aQ fun K' hK=> ?_
   simp[s0,s6,s3,g0,n0,hj2,hgb];refine aj (EU b v hbz hv) rfl (by simp) ?_;simp;apply hK;clear K' hK;by_cases c3:holdB v b=true
   ·skip;refine aYk (by simp[c3]) ?_
    generalize hnb:(decide (v.pre=⟨#[]⟩) || (l.take j).any (nH v))=nb at*;have fin:bV (nb || nH v b)=bV (decide (v.pre=⟨#[]⟩) || (l.take (j+1)).any (nH v)):=(by rw[hnstep,←Bool.or_assoc,hnb]);refine dJ (eP (fun s G nx=>G 0=some (.var 23 v.cells)∧s 3=.ptr 0 0∧s 0=rowT Bd.cells l∧s 6=iV j∧s 5=bV (nb || nH v b)) ?_ ?_)
    ·rw[hnear];cases nb with
     | true=>
      refine aS fun K' hK=> ?_
      simp[s5];apply hK;clear K' hK;with_reducible refine bP ?_
      simp[s3,s0,s6,g0,n0]
     | false=>
      by_cases w0:b.ver.pre=⟨#[]⟩
      ·skip;refine aS fun K' hK=> ?_
       simp[s5,w0];apply hK;clear K' hK;with_reducible refine bP ?_
       simp[s3,s0,s6,g0,n0,w0]
      ·by_cases w1:b.ver.maj=v.maj
       ·by_cases w2:b.ver.min=v.min
        ·skip;refine aS fun K' hK=> ?_
         simp[s5,w0,w1,w2,s3,g0,n0];apply hK;clear K' hK;with_reducible refine bP ?_
         simp[s3,s0,s6,g0,n0,w0,w1,w2]
        ·skip;refine aS fun K' hK=> ?_
         simp[s5,w0,w1,w2,s3,g0,n0];apply hK;clear K' hK;with_reducible refine bP ?_
         simp[s3,s0,s6,g0,n0,w0,w1,w2]
       ·skip;refine aS fun K' hK=> ?_
        simp[s5,w0,w1,s3,g0,n0];apply hK;clear K' hK;with_reducible refine bP ?_
        simp[s3,s0,s6,g0,n0,w0,w1]
    ·clear s3 s0 g0 s5 hf n0;rintro s1 G1 nx1 ⟨g0,s3,s0,s6,s5⟩;apply ak
     refine ah ?_;refine aS fun K' hK=> ?_
     simp[s6,hwj];apply hK;clear K' hK;refine ak (ay ?_ ?_)
     ·exact⟨by simp[g0],by simp[s3],by simp[s0],j+1,by simp[hwj],by omega,by simp[s5];simpa using fin,by rw[hjstep,hjt,c3];rfl⟩
     ·simp[*];omega
   ·skip;refine aX (by simp[c3]) ?_;apply aA;refine aR fun K' hK=> ?_
    simp;apply hK;clear K' hK;apply aJ
    simp[au,aF,Post,bC,res1,bF,bg,aP,bf,aW,okT,okA,ok1,rowOf,Tryz.f172];rw[hjfalse (by simpa using c3)]
  ·skip;apply bG
   refine aI (aH ?_);rw[List.take_of_length_le (by omega)]at hjt s5;have hah:fG v l=(decide (v.pre=⟨#[]⟩) || l.any (nH v)):=(by rw[fG,hjt];rfl);rw[←hah]at s5;refine aR fun K' hK=> ?_
   simp[s5];apply hK;clear K' hK;apply aG
   simp[au,aF,Post,bC,res1,bF,bg,aP,bf,aW,okT,okA,ok1,rowOf,Tryz.f172]
theorem mG (r:Rg) (hr:Rg.sz r):CallsOK Tryz.prog 171 [.agg r.cells] (bV (uF r)) []:=by
 refine aO mixed Tryz.call171 Tryz.func171 rfl (by rw[Tryz.ntmps171];simp) ?_ rfl;rw[Tryz.ntmps171];have hl:=hr.1;refine aR fun K' hK=> ?_
 simp;apply hK;clear K' hK;by_cases z1:r.length<1
 ·have z1':(r.length:Int)<1:=(by omega);apply aA;refine aR fun K' hK=> ?_
  simp[Rg.cells,z1,z1'];apply hK;clear K' hK;refine aX (by simp) ?_;apply aA;refine aR fun K' hK=> ?_
  simp;apply hK;clear K' hK;apply aJ
  simp[au,aF,Post,bC,res1,bF,bg,aP,bf,aW,okT,okA,ok1,rowOf,Tryz.f171];have:¬1≤r.length:=(by omega);simp[uF,this]
 ·have z1':¬(r.length:Int)<1:=(by omega);by_cases z2:8<r.length
  ·have z2':(8:Int)<r.length:=(by omega);apply aA;refine aR fun K' hK=> ?_
   simp[Rg.cells,z1,z1',z2,z2'];apply hK;clear K' hK;refine aX (by simp) ?_;apply aA;refine aR fun K' hK=> ?_
   simp;apply hK;clear K' hK;apply aJ
   simp[au,aF,Post,bC,res1,bF,bg,aP,bf,aW,okT,okA,ok1,rowOf,Tryz.f171];have:¬r.length≤8:=(by omega);simp[uF,this]
  ·have z2':¬(8:Int)<r.length:=(by omega);apply aA;refine aR fun K' hK=> ?_
   simp[Rg.cells,z1,z1',z2,z2'];apply hK;clear K' hK;refine aYk (by simp) ?_;apply aA;refine aR fun K' hK=> ?_
   simp;apply hK;clear K' hK;apply aB
   refine bI (fun s G nx=>G 0=some (.var 33 [rowT Alt.cells r])∧s 1=.ptr 0 0∧∃i:Nat,s 3=iV i∧i≤r.length∧(r.take i).all qc=true) (fun s _ _=>match s 3 with | .v (.int _ n)=>r.length-n.toNat | _=>0) ?_ ?_
   ·exact⟨by simp[Rg.cells],by simp,0,by simp,by omega,by simp⟩
   ·rintro s G nx hf ⟨g0,s1,i,s3,hi,ht⟩;have o3:=s3;have n0:¬0=nx:=(by have:=cO hf g0;omega);have hw:IntKind.i64.wrap (↑i+1)=((i+1:Nat):Int):=dw (by omega);apply aA;refine aR fun K' hK=> ?_
    simp[s1,s3,g0];apply hK;clear K' hK;refine aC fun A B hA hB=> ?_
    simp;refine⟨fun hi2=>hA ?_,fun hi2=>hB ?_⟩<;>clear hA hB A B<;>(try simp at hi2)<;>(try with_reducible refine aK ?_)
    ·have hstep:=iR (p:=qc) hi2;have hA:=hr.2 _ (bK hi2);have hfalse:qc (nth r i)=false→uF r=false:=fun h=>(by rw[uF,all_false hi2 h];rfl);generalize hgl:nth r i=l at*;have hAl:=hA.1;apply aB
     by_cases k8:8<l.length
     ·have k8':(8:Int)<l.length:=(by omega);apply aA;refine aR fun K' hK=> ?_
      simp[s1,s3,g0,hi2,hgl,k8,k8'];apply hK;clear K' hK;refine aX (by simp) ?_;apply aA;refine aR fun K' hK=> ?_
      simp;apply hK;clear K' hK;apply aJ
      simp[au,aF,Post,bC,res1,bF,bg,aP,bf,aW,okT,okA,ok1,rowOf,Tryz.f171];have:qc l=false:=by
       have:¬l.length≤8:=(by omega);simp[qc,this]
      rw[hfalse this]
     ·have k8':¬(8:Int)<l.length:=(by omega);apply aA;refine aR fun K' hK=> ?_
      simp[s1,s3,g0,hi2,hgl,k8,k8'];apply hK;clear K' hK;refine aYk (by simp) ?_;refine aR fun K' hK=> ?_
      simp;apply hK;clear K' hK;refine dJ (aB ?_)
      refine bI (fun s G nx=>G 0=some (.var 33 [rowT Alt.cells r])∧s 1=.ptr 0 0∧s 3=iV i∧∃j:Nat,s 4=iV j∧j≤l.length∧(l.take j).all KD=true) (fun s _ _=>match s 4 with | .v (.int _ n)=>l.length-n.toNat | _=>0) ?_ ?_
      ·exact⟨by simp[g0],by simp[s1],by simp[s3],0,by simp,by omega,by simp⟩
      ·clear s1 s3 g0 hf n0;rintro s G nx hf ⟨g0,s1,s3,j,s4,hj,hjt⟩;have n0:¬0=nx:=(by have:=cO hf g0;omega);have hwj:IntKind.i64.wrap (↑j+1)=((j+1:Nat):Int):=dw (by omega);apply aA;refine aR fun K' hK=> ?_
       simp[s1,s3,s4,g0,hi2,hgl];apply hK;clear K' hK;refine aC fun A B hA hB=> ?_
       simp;refine⟨fun hj2=>hA ?_,fun hj2=>hB ?_⟩<;>clear hA hB A B<;>(try simp at hj2)<;>(try with_reducible refine aK ?_)
       ·have hjstep:=iR (p:=KD) hj2;have hjfalse:KD (nth l j)=false→uF r=false:=fun h=>hfalse (by rw[qc,all_false hj2 h];rfl);have hbz:=hA.2 _ (bK hj2);have hbd:KD (nth l j)=(fH (nth l j).ver&&(decide (1≤(nth l j).op)&&decide ((nth l j).op≤5))):=rfl;generalize hgb:nth l j=b at*;apply aB;refine aR fun K' hK=> ?_
        simp[s1,s3,s4,g0,hi2,hgl,hj2,hgb];apply hK;clear K' hK;by_cases b1:b.op<1
        ·skip;refine aR fun K' hK=> ?_
         simp[b1];apply hK;clear K' hK;refine aU (by simp) ?_;apply aA;refine aR fun K' hK=> ?_
         simp;apply hK;clear K' hK;apply aJ
         simp[au,aF,Post,bC,res1,bF,bg,aP,bf,aW,okT,okA,ok1,rowOf,Tryz.f171];have:¬1≤b.op:=(by omega);rw[hjfalse (by simp[hbd,this])]
        ·by_cases b2:5<b.op
         ·skip;refine aR fun K' hK=> ?_
          simp[b1,b2];apply hK;clear K' hK;refine aU (by simp) ?_;apply aA;refine aR fun K' hK=> ?_
          simp;apply hK;clear K' hK;apply aJ
          simp[au,aF,Post,bC,res1,bF,bg,aP,bf,aW,okT,okA,ok1,rowOf,Tryz.f171];have:¬b.op≤5:=(by omega);rw[hjfalse (by simp[hbd,this])]
         ·skip;refine aR fun K' hK=> ?_
          simp[b1,b2];refine aj (jd b.ver (by omega)) rfl (by simp) ?_;simp;apply hK;clear K' hK;by_cases c3:fH b.ver=true
          ·skip;refine aVk (by simp[c3]) ?_;apply ak
           refine ah ?_;refine aS fun K' hK=> ?_
           simp[s4,hwj];apply hK;clear K' hK;refine ak (ay ?_ ?_)
           ·exact⟨by simp[g0,n0],by simp[s1],by simp[s3],j+1,by simp[hwj],by omega,by
             rw[hjstep,hjt,hbd,c3];simp;omega⟩
           ·simp[s4,hwj];omega
          ·skip;refine aU (by simp[c3]) ?_;apply aA;refine aR fun K' hK=> ?_
           simp;apply hK;clear K' hK;apply aJ
           simp[au,aF,Post,bC,res1,bF,bg,aP,bf,aW,okT,okA,ok1,rowOf,Tryz.f171];rw[hjfalse (by simp[hbd,c3])]
       ·skip;apply bG
        refine aI (aH ?_);rw[List.take_of_length_le (by omega)]at hjt;apply ak
        refine ah ?_;refine aS fun K' hK=> ?_
        simp[s3,hw];apply hK;clear K' hK;refine ak (ay ?_ ?_)
        ·exact⟨by simp[g0],by simp[s1],i+1,by simp[hw],by omega,by
          rw[hstep,ht,qc,hjt];simp;omega⟩
        ·simp[o3,s3,hw];omega
    ·skip;apply bG
     refine aI (aH ?_);rw[List.take_of_length_le (by omega)]at ht;refine aR fun K' hK=> ?_
     simp;apply hK;clear K' hK;apply aG
     simp[au,aF,Post,bC,res1,bF,bg,aP,bf,aW,okT,okA,ok1,rowOf,Tryz.f171];simp[uF,ht];omega
theorem zG (r:Rg) (v:Ver) (hr:Rg.sz r) (hv:v.pre.size≤1000000):CallsOK Tryz.prog 134 [.agg r.cells,.agg v.cells] (bV (dS v r)) []:=by
 refine aO mixed Tryz.call134 Tryz.func134 rfl (by rw[Tryz.ntmps134];simp) ?_ rfl;rw[Tryz.ntmps134];have hl:=hr.1;refine aR fun K' hK=> ?_
 simp;apply hK;clear K' hK;apply aA;refine aR fun K' hK=> ?_
 simp[Rg.cells];refine aj (mG r hr) rfl (by simp[Rg.cells]) ?_;by_cases c1:uF r=true
 ·simp[c1];refine aj (jd v (by omega)) rfl (by simp) ?_;by_cases c2:fH v=true
  ·simp[c2];apply hK;clear K' hK;refine aYk (by simp) ?_;apply aA;refine aR fun K' hK=> ?_
   simp;apply hK;clear K' hK;apply aB
   refine bI (fun s G nx=>G 0=some (.var 33 [rowT Alt.cells r])∧G 1=some (.var 23 v.cells)∧s 2=.ptr 0 0∧s 3=.ptr 1 0∧∃i:Nat,s 5=iV i∧i≤r.length∧(r.take i).any (fG v)=false) (fun s _ _=>match s 5 with | .v (.int _ n)=>r.length-n.toNat | _=>0) ?_ ?_
   ·exact⟨by simp[Rg.cells],by simp,by simp,by simp,0,by simp,by omega,by simp⟩
   ·rintro s G nx hf ⟨g0,g1,s2,s3,i,s5,hi,ht⟩;have hw:IntKind.i64.wrap (↑i+1)=((i+1:Nat):Int):=dw (by omega);apply aA;refine aR fun K' hK=> ?_
    simp[s2,s5,g0];apply hK;clear K' hK;refine aC fun A B hA hB=> ?_
    simp;refine⟨fun hi2=>hA ?_,fun hi2=>hB ?_⟩<;>clear hA hB A B<;>(try simp at hi2)<;>(try with_reducible refine aK ?_)
    ·have hA:=hr.2 _ (bK hi2);apply aB;refine aQ fun K' hK=> ?_
     simp[s2,s3,s5,g0,g1,hi2];refine aj (JX (nth r i) v hA hv) rfl (by simp) ?_;simp;apply hK;clear K' hK;by_cases c4:fG v (nth r i)=true
     ·skip;refine aU (by simp[c4]) ?_;apply aA;refine aR fun K' hK=> ?_
      simp;apply hK;clear K' hK;apply aJ
      simp[au,aF,Post,bC,res1,bF,bg,aP,bf,aW,okT,okA,ok1,rowOf,Tryz.f134];have:r.any (fG v)=true:=List.any_eq_true.2 ⟨_,bK hi2,c4⟩;simp[dS,c1,c2,this]
     ·skip;refine aVk (by simp[c4]) ?_;apply ak
      refine ah ?_;refine aS fun K' hK=> ?_
      simp[s5,hw];apply hK;clear K' hK;refine ak (ay ?_ ?_)
      ·exact⟨by simp[g0],by simp[g1],by simp[s2],by simp[s3],i+1,by simp[hw],by omega,mF hi2 ht (by simpa using c4)⟩
      ·simp[s5,hw];omega
    ·skip;apply bG
     refine aI (aH ?_);rw[List.take_of_length_le (by omega)]at ht;refine aR fun K' hK=> ?_
     simp;apply hK;clear K' hK;apply aG
     simp[au,aF,Post,bC,res1,bF,bg,aP,bf,aW,okT,okA,ok1,rowOf,Tryz.f134];simp[dS,ht]
  ·simp[c2];apply hK;clear K' hK;refine aX (by simp) ?_;apply aA;refine aR fun K' hK=> ?_
   simp;apply hK;clear K' hK;apply aJ
   simp[au,aF,Post,bC,res1,bF,bg,aP,bf,aW,okT,okA,ok1,rowOf,Tryz.f134];simp[dS,c2]
 ·simp[c1];apply hK;clear K' hK;refine aX (by simp) ?_;apply aA;refine aR fun K' hK=> ?_
  simp;apply hK;clear K' hK;apply aJ
  simp[au,aF,Post,bC,res1,bF,bg,aP,bf,aW,okT,okA,ok1,rowOf,Tryz.f134];simp[dS,c1]
set_option maxRecDepth 100000
set_option maxHeartbeats 4000000
theorem LY (d:Dep) (root:Bool) (hn:d.name.size≤1000000) (hr:Rg.sz d.range):CallsOK Tryz.prog 202 [.agg d.cells,bV root] (bV (kT root d&&iQ d.name d.range)) []:=by
 refine aO mixed Tryz.call202 Tryz.func202 rfl (by rw[Tryz.ntmps202];simp) ?_ rfl;rw[Tryz.ntmps202];refine aR fun K' hK=> ?_
 simp;apply hK;clear K' hK;have hk:∀b,kT root d=b→(kT root d&&iQ d.name d.range)=(b&&(uF d.range&&jC (bsL d.name))):=fun b h=>(by rw[h];rfl);have fin:∀(K:Bool),kT root d=K→True:=fun _ _=>trivial;by_cases k1:1≤d.kind
 ·by_cases k4:d.kind≤4
  ·by_cases k2:root=true∨d.kind≠2
   ·have hkb:kT root d=true:=by
     simp only[kT,Bool.and_eq_true,decide_eq_true_eq,Bool.or_eq_true,Bool.not_eq_true',decide_eq_false_iff_not];exact⟨⟨k1,k4⟩,k2⟩
    rw[hkb];refine eP (fun s G nx=>s 4=bV (jC (bsL d.name)&&uF d.range)) ?_ ?_
    ·cases root with
     | true=>
      refine aS fun K' hK=> ?_
      simp[k1,k4];refine aj (lQ d.name (by omega)) rfl (by first | rfl | (simp;done) | (simp;rfl) | (simp;exact⟨rfl,rfl⟩)) ?_;by_cases hg:jC (bsL d.name)=true
      ·simp[hg];refine aj (mG d.range hr) rfl (by simp[Rg.cells]) ?_;simp;apply hK;clear K' hK;with_reducible refine bP ?_
       simp[hg]
      ·simp[hg];apply hK;clear K' hK;with_reducible refine bP ?_
       simp[hg]
     | false=>
      have k2':¬d.kind=2:=k2.resolve_left (by simp);refine aS fun K' hK=> ?_
      simp[k1,k4,k2'];refine aj (lQ d.name (by omega)) rfl (by first | rfl | (simp;done) | (simp;rfl) | (simp;exact⟨rfl,rfl⟩)) ?_;by_cases hg:jC (bsL d.name)=true
      ·simp[hg];refine aj (mG d.range hr) rfl (by simp[Rg.cells]) ?_;simp;apply hK;clear K' hK;with_reducible refine bP ?_
       simp[hg]
      ·simp[hg];apply hK;clear K' hK;with_reducible refine bP ?_
       simp[hg]
    ·rintro s G nx s4;apply aG
     simp[au,aF,Post,bC,res1,bF,bg,aP,bf,aW,okT,okA,ok1,rowOf,Tryz.f202,s4];simp[iQ,Bool.and_comm]
   ·have hr0:root=false:=(by cases root<;>simp_all);have hk2:d.kind=2:=by
     rcases Classical.em (d.kind=2)with h | h
     ·exact h
     ·exact absurd (.inr h) k2
    subst hr0;refine aR fun K' hK=> ?_
    simp[k1,k4,hk2];apply hK;clear K' hK;apply aG
    simp[au,aF,Post,bC,res1,bF,bg,aP,bf,aW,okT,okA,ok1,rowOf,Tryz.f202];simp[kT,hk2]
  ·skip;refine aR fun K' hK=> ?_
   simp[k1,k4];apply hK;clear K' hK;apply aG
   simp[au,aF,Post,bC,res1,bF,bg,aP,bf,aW,okT,okA,ok1,rowOf,Tryz.f202];simp[kT,k4]
 ·skip;refine aR fun K' hK=> ?_
  simp[k1];apply hK;clear K' hK;apply aG
  simp[au,aF,Post,bC,res1,bF,bg,aP,bf,aW,okT,okA,ok1,rowOf,Tryz.f202];simp[kT,k1]
theorem E5 (a b:Man) (ha:a.ver.pre.size≤1000000) (hb:b.ver.pre.size≤1000000):CallsOK Tryz.prog 163 [.agg a.cells,.agg b.cells] (bV (decide (kM a b<0))) []:=by
 refine aO mixed Tryz.call163 Tryz.func163 rfl (by rw[Tryz.ntmps163];simp) ?_ rfl;rw[Tryz.ntmps163];refine aR fun K' hK=> ?_
 simp;apply hK;clear K' hK;by_cases h1:ltB a.name b.name=true
 ·skip;refine aR fun K' hK=> ?_
  simp[h1];apply hK;clear K' hK;apply aG
  simp[au,aF,Post,bC,res1,bF,bg,aP,bf,aW,okT,okA,ok1,rowOf,Tryz.f163];have:lW a.name b.name= -1:=(by simp[lW,h1]);simp[kM,orN,this]
 ·have h1':ltB a.name b.name=false:=(by simpa using h1);by_cases h2:a.name=b.name
  ·have h2':(a.name=b.name)=True:=eq_true h2;refine aR fun K' hK=> ?_
   simp[h1',h2'];refine aj (mO a.ver b.ver ha hb) rfl (by first | rfl | (simp;done) | (simp;rfl) | (simp;exact⟨rfl,rfl⟩)) ?_;simp;apply hK;clear K' hK;apply aG
   simp[au,aF,Post,bC,res1,bF,bg,aP,bf,aW,okT,okA,ok1,rowOf,Tryz.f163];have:lW a.name b.name=0:=xZ.2 h2;simp only[kM,orN,this,if_true];split
   ·rename_i h;rw[h]
   ·rfl
  ·skip;refine aR fun K' hK=> ?_
   refine bJ 6 fun K2 hK2=> ?_;simp[h1'];refine hK2 _ _ _ ?_;clear K2 hK2;refine bJ 6 fun K2 hK2=> ?_;simp[h2];refine hK2 _ _ _ ?_;clear K2 hK2;simp[h2];apply hK;clear K' hK;apply aG
   simp[au,aF,Post,bC,res1,bF,bg,aP,bf,aW,okT,okA,ok1,rowOf,Tryz.f163];have h3:¬lW a.name b.name=0:=fun h=>h2 (xZ.1 h);have h4:¬lW a.name b.name<0:=fun h=>h1 (qH.1 h);simp only[kM,orN,if_neg h3];omega
set_option maxRecDepth 100000
set_option maxHeartbeats 4000000
theorem Na (a b:Dep):Aa a b=true↔¬b.kind<a.kind∧(¬a.kind=b.kind∨ltB a.name b.name=true):=by
 unfold Aa;rw[decide_eq_true_eq];have e:orN [gK a.kind b.kind,lW a.name b.name]=if gK a.kind b.kind=0 then lW a.name b.name else gK a.kind b.kind:=by
  simp only[orN];split
  ·split
   ·rename_i h;exact h.symm
   ·rfl
  ·rfl
 rw[e];rcases Int.lt_trichotomy a.kind b.kind with h | h | h
 ·rw[ML h,if_neg (by decide)];exact⟨fun _=>⟨by omega,.inl (by omega)⟩,fun _=>by decide⟩
 ·rw[h,iT,if_pos rfl,qH];exact⟨fun h=>⟨by omega,.inr h⟩,fun h=>h.2.resolve_left (by simp)⟩
 ·rw[Nb h,if_neg (by decide)];exact⟨fun h=>absurd h (by decide),fun h2=>absurd h h2.1⟩
theorem EL (m:Man) (hm:Man.sz m) (root:Bool):CallsOK Tryz.prog 162 [.agg m.cells,bV root] (bV (eF m root)) []:=by
 obtain⟨hn,hv,⟨hdl,hdd⟩,hrl,hrr⟩:=hm;refine aO mixed Tryz.call162 Tryz.func162 rfl (by rw[Tryz.ntmps162];simp) ?_ rfl;rw[Tryz.ntmps162];refine aR fun K' hK=> ?_
 simp;apply hK;clear K' hK;apply aA
 refine eP (fun s G nx=>s 1=bV root∧s 2=.ptr 0 0∧G 0=some (.var 27 m.cells)∧s 35=bV (!fU m root)) ?_ ?_
 ·skip;refine aS fun K' hK=> ?_
  refine bJ 3 fun K2 hK2=> ?_;simp;refine aj (jd m.ver (by omega)) rfl (by first | rfl | (simp;done) | (simp;rfl) | (simp;exact⟨rfl,rfl⟩)) ?_;simp;refine hK2 _ _ _ ?_;clear K2 hK2;by_cases c1:fH m.ver=true
  ·refine bJ 7 fun K2 hK2=> ?_;simp[c1];refine aj (lQ m.name (by omega)) rfl (by first | rfl | (simp;done) | (simp;rfl) | (simp;exact⟨rfl,rfl⟩)) ?_;simp;refine hK2 _ _ _ ?_;clear K2 hK2;by_cases c2:jC (bsL m.name)=true
   ·by_cases c3:m.rules.length=0
    ·have c3':¬0<m.rules.length:=(by omega);have c3i:¬(0:Int)<m.rules.length:=(by omega);refine bJ 8 fun K2 hK2=> ?_;simp[c1,c2];refine hK2 _ _ _ ?_;clear K2 hK2;simp[c1,c2,c3,c3',c3i];apply hK;clear K' hK;with_reducible refine bP ?_
     simp[fU,c1,c2,c3]
    ·have c3':0<m.rules.length:=(by omega);have c3i:(0:Int)<m.rules.length:=(by omega);cases root<;>(
      refine bJ 8 fun K2 hK2=> ?_;simp[c1,c2];refine hK2 _ _ _ ?_;clear K2 hK2;simp[c1,c2,c3,c3',c3i];apply hK;clear K' hK;with_reducible refine bP ?_
      simp[fU,c1,c2,c3])
   ·by_cases c4:m.name=⟨#[]⟩
    ·have c4':(m.name=⟨#[]⟩)=True:=eq_true c4;by_cases c3:m.rules.length=0
     ·have c3':¬0<m.rules.length:=(by omega);have c3i:¬(0:Int)<m.rules.length:=(by omega);cases root<;>(
       refine bJ 8 fun K2 hK2=> ?_;simp[c1,c2,c4'];refine hK2 _ _ _ ?_;clear K2 hK2;simp[c1,c2,c3,c3',c3i];apply hK;clear K' hK;with_reducible refine bP ?_
       simp[fU,c1,c2,c3,c4'])
     ·have c3':0<m.rules.length:=(by omega);have c3i:(0:Int)<m.rules.length:=(by omega);cases root<;>(
       refine bJ 8 fun K2 hK2=> ?_;simp[c1,c2,c4'];refine hK2 _ _ _ ?_;clear K2 hK2;simp[c1,c2,c3,c3',c3i];apply hK;clear K' hK;with_reducible refine bP ?_
       simp[fU,c1,c2,c3,c4'])
    ·refine bJ 8 fun K2 hK2=> ?_;simp[c1,c2,c4];refine hK2 _ _ _ ?_;clear K2 hK2;simp[c1,c2,c4];apply hK;clear K' hK;with_reducible refine bP ?_
     simp[fU,c1,c2,c4]
  ·refine bJ 8 fun K2 hK2=> ?_;simp[c1];refine hK2 _ _ _ ?_;clear K2 hK2;refine bJ 8 fun K2 hK2=> ?_;simp[c1];refine hK2 _ _ _ ?_;clear K2 hK2;simp[c1];apply hK;clear K' hK;with_reducible refine bP ?_
   simp[fU,c1]
 ·rintro s G nx ⟨s1,s2,g0,s35⟩;by_cases hh:fU m root=true
  ·rw[hh]at s35;refine aYk (by simp[s35]) ?_;apply aA;refine aR fun K' hK=> ?_
   simp;apply hK;clear K' hK;refine BD (fun s G nx=>s 1=bV root∧s 2=.ptr 0 0∧G 0=some (.var 27 m.cells)∧(List.range m.deps.length).all (yA root m.deps)=true) ?_ ?_
   ·skip;refine dJ (aB ?_)
    refine bI (fun s G nx=>s 1=bV root∧s 2=.ptr 0 0∧G 0=some (.var 27 m.cells)∧∃i:Nat,s 5=iV i∧i≤m.deps.length∧(List.range i).all (yA root m.deps)=true) (fun s _ _=>match s 5 with | .v (.int _ n)=>m.deps.length-n.toNat | _=>0) ?_ ?_
    ·exact⟨by simp[s1],by simp[s2],by simp[g0],0,by simp,by omega,by simp⟩
    ·clear s1 s2 g0 s35 s G nx;rintro s G nx hf ⟨s1,s2,g0,i,s5,hi,ht⟩;have hw:IntKind.i64.wrap (↑i+1)=((i+1:Nat):Int):=dw (by omega);apply aA;refine aR fun K' hK=> ?_
     simp[s2,s5,g0];apply hK;clear K' hK;refine aC fun A B hA hB=> ?_
     simp;refine⟨fun hi2=>hA ?_,fun hi2=>hB ?_⟩<;>clear hA hB A B<;>(try simp at hi2)<;>(try with_reducible refine aK ?_)
     ·have hd:=hdd _ (bK hi2);have hfalse:yA root m.deps i=false→eF m root=false:=fun h=>(by rw[eF,tN hi2 h];simp);have hstep:=oJ (p:=yA root m.deps) ht;have hdef:yA root m.deps i=(kT root (nth m.deps i)&&(iQ (nth m.deps i).name (nth m.deps i).range&&(decide (i=0) || Aa (nth m.deps (i-1)) (nth m.deps i)))):=rfl;generalize hgd:nth m.deps i=d at*;apply aB
      have hdep:=LY d root hd.1 hd.2;generalize hKR:(kT root d&&iQ d.name d.range)=kr at hdep;apply aA;refine aR fun K' hK=> ?_
      simp[s1,s2,s5,g0,hi2,hgd];refine aj hdep rfl (by first | rfl | (simp;done) | (simp;rfl) | (simp;exact⟨rfl,rfl⟩)) ?_;simp;apply hK;clear K' hK;cases kr with
      | true=>
       refine aYk (by simp) ?_
       have c':kT root d=true∧iQ d.name d.range=true:=(by simpa using hKR);rw[c'.1,c'.2]at hdef;by_cases hz:i=0
       ·have hz':¬(0:Int)<(i:Int):=(by omega);have hz2:¬0<i:=(by omega);refine aQ fun K' hK=> ?_
        refine bJ 10 fun K2 hK2=> ?_;simp[s5,hz',hz2];refine hK2 _ _ _ ?_;clear K2 hK2;refine bJ 10 fun K2 hK2=> ?_;simp[hz',hz2];refine hK2 _ _ _ ?_;clear K2 hK2;refine bJ 10 fun K2 hK2=> ?_;simp[hz',hz2];refine hK2 _ _ _ ?_;clear K2 hK2;refine bJ 10 fun K2 hK2=> ?_;simp[hz',hz2];refine hK2 _ _ _ ?_;clear K2 hK2;simp[hz',hz2];apply hK;clear K' hK;refine aVk (by simp) ?_;apply ak
        refine ah ?_;refine aS fun K' hK=> ?_
        simp[s5,hw];apply hK;clear K' hK;refine ak (ay ?_ ?_)
        ·exact⟨by simp[s1],by simp[s2],by simp[g0],i+1,by simp[hw],by omega,hstep (by rw[hdef];simp[hz])⟩
        ·simp[s5,hw];omega
       ·obtain⟨p,hp⟩:∃p,i=p+1:=⟨i-1,by omega⟩;have hz':(0:Int)<(i:Int):=(by omega);have hz2:0<i:=(by omega);have hsub:IntKind.i64.wrap ((i:Int)-1)=(p:Int):=(by rw[wrap64 (by omega) (by omega)];omega);have hpl:p<m.deps.length:=(by omega);have hip:i-1=p:=(by omega);rw[hip]at hdef;have hlt:=Na (nth m.deps p) d;generalize hgp:nth m.deps p=e at*;by_cases k1:d.kind<e.kind
        ·skip;refine aQ fun K' hK=> ?_
         refine bJ 17 fun K2 hK2=> ?_;simp[s2,s5,g0,hz',hz2,hsub,hpl,hgp,hi2,hgd,k1];refine hK2 _ _ _ ?_;clear K2 hK2;refine bJ 12 fun K2 hK2=> ?_;simp[hz',hz2,k1];refine hK2 _ _ _ ?_;clear K2 hK2;refine bJ 12 fun K2 hK2=> ?_;simp[hz',hz2,k1];refine hK2 _ _ _ ?_;clear K2 hK2;simp[hz',hz2,k1];apply hK;clear K' hK;refine aU (by simp) ?_;apply aA;refine aR fun K' hK=> ?_
         simp;apply hK;clear K' hK;apply aJ
         simp[au,aF,Post,bC,res1,bF,bg,aP,bf,aW,okT,okA,ok1,rowOf,Tryz.f162,Eu];have:Aa e d=false:=by
          rw[Bool.eq_false_iff];exact fun h=>(hlt.1 h).1 k1
         rw[hfalse (by rw[hdef,this];simp[hz])]
        ·by_cases k2:e.kind=d.kind
         ·have k2':(e.kind=d.kind)=True:=eq_true k2;by_cases k3:ltB e.name d.name=true
          ·skip;refine aQ fun K' hK=> ?_
           refine bJ 17 fun K2 hK2=> ?_;simp[s2,s5,g0,hz',hz2,hsub,hpl,hgp,hi2,hgd,k1];refine hK2 _ _ _ ?_;clear K2 hK2;refine bJ 15 fun K2 hK2=> ?_;simp[s2,s5,g0,hz',hz2,hsub,hpl,hgp,hi2,hgd,k1,k2'];refine hK2 _ _ _ ?_;clear K2 hK2;refine bJ 15 fun K2 hK2=> ?_;simp[s2,s5,g0,hz',hz2,hsub,hpl,hgp,hi2,hgd,k1,k2',k3];refine hK2 _ _ _ ?_;clear K2 hK2;simp[hz',hz2,k1,k2',k3];apply hK;clear K' hK;refine aVk (by simp) ?_;apply ak
           refine ah ?_;refine aS fun K' hK=> ?_
           simp[s5,hw];apply hK;clear K' hK;refine ak (ay ?_ ?_)
           ·exact⟨by simp[s1],by simp[s2],by simp[g0],i+1,by simp[hw],by omega,hstep (by rw[hdef,hlt.2 ⟨k1,.inr k3⟩];simp)⟩
           ·simp[s5,hw];omega
          ·have k3':ltB e.name d.name=false:=(by simpa using k3);refine aQ fun K' hK=> ?_
           refine bJ 17 fun K2 hK2=> ?_;simp[s2,s5,g0,hz',hz2,hsub,hpl,hgp,hi2,hgd,k1];refine hK2 _ _ _ ?_;clear K2 hK2;refine bJ 15 fun K2 hK2=> ?_;simp[s2,s5,g0,hz',hz2,hsub,hpl,hgp,hi2,hgd,k1,k2'];refine hK2 _ _ _ ?_;clear K2 hK2;refine bJ 15 fun K2 hK2=> ?_;simp[s2,s5,g0,hz',hz2,hsub,hpl,hgp,hi2,hgd,k1,k2',k3'];refine hK2 _ _ _ ?_;clear K2 hK2;simp[hz',hz2,k1,k2',k3'];apply hK;clear K' hK;refine aU (by simp) ?_;apply aA;refine aR fun K' hK=> ?_
           simp;apply hK;clear K' hK;apply aJ
           simp[au,aF,Post,bC,res1,bF,bg,aP,bf,aW,okT,okA,ok1,rowOf,Tryz.f162,Eu];have:Aa e d=false:=by
            rw[Bool.eq_false_iff];exact fun h=>(hlt.1 h).2.elim (fun h=>h k2) k3
           rw[hfalse (by rw[hdef,this];simp[hz])]
         ·skip;refine aQ fun K' hK=> ?_
          refine bJ 17 fun K2 hK2=> ?_;simp[s2,s5,g0,hz',hz2,hsub,hpl,hgp,hi2,hgd,k1];refine hK2 _ _ _ ?_;clear K2 hK2;refine bJ 15 fun K2 hK2=> ?_;simp[s2,s5,g0,hz',hz2,hsub,hpl,hgp,hi2,hgd,k1,k2];refine hK2 _ _ _ ?_;clear K2 hK2;refine bJ 15 fun K2 hK2=> ?_;simp[s2,s5,g0,hz',hz2,hsub,hpl,hgp,hi2,hgd,k1,k2];refine hK2 _ _ _ ?_;clear K2 hK2;simp[hz',hz2,k1,k2];apply hK;clear K' hK;refine aVk (by simp) ?_;apply ak
          refine ah ?_;refine aS fun K' hK=> ?_
          simp[s5,hw];apply hK;clear K' hK;refine ak (ay ?_ ?_)
          ·exact⟨by simp[s1],by simp[s2],by simp[g0],i+1,by simp[hw],by omega,hstep (by rw[hdef,hlt.2 ⟨k1,.inl k2⟩];simp)⟩
          ·simp[s5,hw];omega
      | false=>
       refine aX (by simp) ?_;apply aA;refine aR fun K' hK=> ?_
       simp;apply hK;clear K' hK;apply aJ
       simp[au,aF,Post,bC,res1,bF,bg,aP,bf,aW,okT,okA,ok1,rowOf,Tryz.f162,Eu];rw[hfalse (by rw[hdef,←Bool.and_assoc,hKR];rfl)]
     ·skip;apply bG
      refine aI (aH ?_);have hie:i=m.deps.length:=(by omega);subst hie;with_reducible refine kR ?_
      exact⟨by simp[s1],by simp[s2],by simp[g0],ht⟩
   ·clear s1 s2 g0 s35 s G nx;rintro s G nx ⟨s1,s2,g0,hall⟩;have hmr:eF m root=(List.range m.rules.length).all (Oz m.rules):=(by rw[eF,hh,hall];rfl);apply aA;refine aR fun K' hK=> ?_
    simp;apply hK;clear K' hK;apply aB
    refine bI (fun s G nx=>s 2=.ptr 0 0∧G 0=some (.var 27 m.cells)∧∃i:Nat,s 6=iV i∧i≤m.rules.length∧(List.range i).all (Oz m.rules)=true) (fun s _ _=>match s 6 with | .v (.int _ n)=>m.rules.length-n.toNat | _=>0) ?_ ?_
    ·exact⟨by simp[s2],by simp[g0],0,by simp,by omega,by simp⟩
    ·clear s1 s2 g0 s G nx;rintro s G nx hf ⟨s2,g0,i,s6,hi,ht⟩;have hw:IntKind.i64.wrap (↑i+1)=((i+1:Nat):Int):=dw (by omega);apply aA;refine aR fun K' hK=> ?_
     simp[s2,s6,g0];apply hK;clear K' hK;refine aC fun A B hA hB=> ?_
     simp;refine⟨fun hi2=>hA ?_,fun hi2=>hB ?_⟩<;>clear hA hB A B<;>(try simp at hi2)<;>(try with_reducible refine aK ?_)
     ·have hd:=hrr _ (bK hi2);have hfalse:Oz m.rules i=false→eF m root=false:=fun h=>(by rw[hmr,tN hi2 h]);have hstep:=oJ (p:=Oz m.rules) ht;have hdef:Oz m.rules i=(iQ (nth m.rules i).name (nth m.rules i).range&&(decide (i=0) || ltB (nth m.rules (i-1)).name (nth m.rules i).name)):=rfl;generalize hgd:nth m.rules i=d at*;have hrd:iQ d.name d.range=(uF d.range&&jC (bsL d.name)):=rfl;apply aB;refine aQ fun K' hK=> ?_
      refine bJ 7 fun K2 hK2=> ?_;simp[s2,s6,g0,hi2,hgd];refine aj (lQ d.name (by omega)) rfl (by first | rfl | (simp;done) | (simp;rfl) | (simp;exact⟨rfl,rfl⟩)) ?_;simp;refine hK2 _ _ _ ?_;clear K2 hK2;by_cases c1:jC (bsL d.name)=true
      ·refine bJ 9 fun K2 hK2=> ?_;simp[s2,s6,g0,hi2,hgd,c1];refine aj (mG d.range hd.2) rfl (by simp[Rg.cells]) ?_;simp;refine hK2 _ _ _ ?_;clear K2 hK2;by_cases c2:uF d.range=true
       ·have hrt:iQ d.name d.range=true:=(by rw[hrd,c1,c2];rfl);rw[hrt]at hdef;by_cases hz:i=0
        ·have hz':¬(0:Int)<(i:Int):=(by omega);have hz2:¬0<i:=(by omega);refine bJ 10 fun K2 hK2=> ?_;simp[c1,c2,s6,hz',hz2];refine hK2 _ _ _ ?_;clear K2 hK2;simp[c1,c2,hz',hz2];apply hK;clear K' hK;refine aVk (by simp) ?_;apply ak
         refine ah ?_;refine aS fun K' hK=> ?_
         simp[s6,hw];apply hK;clear K' hK;refine ak (ay ?_ ?_)
         ·exact⟨by simp[s2],by simp[g0],i+1,by simp[hw],by omega,hstep (by rw[hdef];simp[hz])⟩
         ·simp[s6,hw];omega
        ·obtain⟨p,hp⟩:∃p,i=p+1:=⟨i-1,by omega⟩;have hz':(0:Int)<(i:Int):=(by omega);have hz2:0<i:=(by omega);have hsub:IntKind.i64.wrap ((i:Int)-1)=(p:Int):=(by rw[wrap64 (by omega) (by omega)];omega);have hpl:p<m.rules.length:=(by omega);have hip:i-1=p:=(by omega);rw[hip]at hdef;generalize hgp:nth m.rules p=e at*;by_cases k3:ltB e.name d.name=true
         ·refine bJ 8 fun K2 hK2=> ?_;simp[c1,c2,s2,s6,g0,hz',hz2,hsub,hpl,hgp,hi2,hgd];refine hK2 _ _ _ ?_;clear K2 hK2;refine bJ 8 fun K2 hK2=> ?_;simp[c1,c2,s2,s6,g0,hz',hz2,hsub,hpl,hgp,hi2,hgd];refine hK2 _ _ _ ?_;clear K2 hK2;simp[c1,c2,hz',hz2,k3,hi2,hgd,s2,s6,g0];apply hK;clear K' hK;refine aVk (by simp) ?_;apply ak
          refine ah ?_;refine aS fun K' hK=> ?_
          simp[s6,hw];apply hK;clear K' hK;refine ak (ay ?_ ?_)
          ·exact⟨by simp[s2],by simp[g0],i+1,by simp[hw],by omega,hstep (by rw[hdef,k3];simp)⟩
          ·simp[s6,hw];omega
         ·have k3':ltB e.name d.name=false:=(by simpa using k3);refine bJ 8 fun K2 hK2=> ?_;simp[c1,c2,s2,s6,g0,hz',hz2,hsub,hpl,hgp,hi2,hgd];refine hK2 _ _ _ ?_;clear K2 hK2;refine bJ 8 fun K2 hK2=> ?_;simp[c1,c2,s2,s6,g0,hz',hz2,hsub,hpl,hgp,hi2,hgd];refine hK2 _ _ _ ?_;clear K2 hK2;simp[c1,c2,hz',hz2,k3',hi2,hgd,s2,s6,g0];apply hK;clear K' hK;refine aU (by simp) ?_;apply aA;refine aR fun K' hK=> ?_
          simp;apply hK;clear K' hK;apply aJ
          simp[au,aF,Post,bC,res1,bF,bg,aP,bf,aW,okT,okA,ok1,rowOf,Tryz.f162];rw[hfalse (by rw[hdef,k3'];simp[hz])]
       ·refine bJ 10 fun K2 hK2=> ?_;simp[c1,c2];refine hK2 _ _ _ ?_;clear K2 hK2;simp[c1,c2];apply hK;clear K' hK;refine aU (by simp) ?_;apply aA;refine aR fun K' hK=> ?_
        simp;apply hK;clear K' hK;apply aJ
        simp[au,aF,Post,bC,res1,bF,bg,aP,bf,aW,okT,okA,ok1,rowOf,Tryz.f162];rw[hfalse (by rw[hdef,hrd];simp[c2])]
      ·refine bJ 10 fun K2 hK2=> ?_;simp[c1];refine hK2 _ _ _ ?_;clear K2 hK2;refine bJ 10 fun K2 hK2=> ?_;simp[c1];refine hK2 _ _ _ ?_;clear K2 hK2;simp[c1];apply hK;clear K' hK;refine aU (by simp) ?_;apply aA;refine aR fun K' hK=> ?_
       simp;apply hK;clear K' hK;apply aJ
       simp[au,aF,Post,bC,res1,bF,bg,aP,bf,aW,okT,okA,ok1,rowOf,Tryz.f162];rw[hfalse (by rw[hdef,hrd];simp[c1])]
     ·skip;apply bG
      refine aI (aH ?_);have hie:i=m.rules.length:=(by omega);subst hie;refine aR fun K' hK=> ?_
      simp;apply hK;clear K' hK;apply aG
      simp[au,aF,Post,bC,res1,bF,bg,aP,bf,aW,okT,okA,ok1,rowOf,Tryz.f162];rw[hmr,ht]
  ·have hh':fU m root=false:=(by simpa using hh);rw[hh']at s35;refine aX (by simp[s35]) ?_;apply aA;refine aR fun K' hK=> ?_
   simp;apply hK;clear K' hK;apply aJ
   simp[au,aF,Post,bC,res1,bF,bg,aP,bf,aW,okT,okA,ok1,rowOf,Tryz.f162];simp[eF,hh']
set_option maxRecDepth 100000
set_option maxHeartbeats 4000000
theorem xw (m:Man) (hm:Man.sz m) (root:Bool):CallsOK Tryz.prog 124 [.agg m.cells,bV root] (iV (dL m root)) []:=by
 refine aO mixed Tryz.call124 Tryz.func124 rfl (by rw[Tryz.ntmps124];simp) ?_ rfl;rw[Tryz.ntmps124];refine aR fun K' hK=> ?_
 simp;apply hK;clear K' hK;by_cases c1:30<m.deps.length
 ·have c1':(30:Int)<m.deps.length:=(by omega);apply aA;refine aR fun K' hK=> ?_
  simp[c1,c1'];apply hK;clear K' hK;refine aX (by simp) ?_;apply aA;refine aR fun K' hK=> ?_
  simp;apply hK;clear K' hK;apply aJ
  simp[au,aF,Post,bC,res1,bF,bg,aP,bf,aW,okT,okA,ok1,rowOf,Tryz.f124];simp[dL,c1]
 ·have c1':¬(30:Int)<m.deps.length:=(by omega);by_cases c2:30<m.rules.length
  ·have c2':(30:Int)<m.rules.length:=(by omega);apply aA;refine aR fun K' hK=> ?_
   simp[c1,c1',c2,c2'];apply hK;clear K' hK;refine aX (by simp) ?_;apply aA;refine aR fun K' hK=> ?_
   simp;apply hK;clear K' hK;apply aJ
   simp[au,aF,Post,bC,res1,bF,bg,aP,bf,aW,okT,okA,ok1,rowOf,Tryz.f124];simp[dL,c2]
  ·have c2':¬(30:Int)<m.rules.length:=(by omega);apply aA;refine aR fun K' hK=> ?_
   simp[c1,c1',c2,c2'];apply hK;clear K' hK;refine aYk (by simp) ?_;apply aA;refine aR fun K' hK=> ?_
   simp;refine aj (EL m hm root) rfl (by first | rfl | (simp;done) | (simp;rfl) | (simp;exact⟨rfl,rfl⟩)) ?_;simp;apply hK;clear K' hK;by_cases c3:eF m root=true
   ·skip;refine aYk (by simp[c3]) ?_;refine aR fun K' hK=> ?_
    simp;apply hK;clear K' hK;apply aG
    simp[au,aF,Post,bC,res1,bF,bg,aP,bf,aW,okT,okA,ok1,rowOf,Tryz.f124];simp[dL,c1,c2,c3]
   ·skip;refine aX (by simp[c3]) ?_;apply aA;refine aR fun K' hK=> ?_
    simp;apply hK;clear K' hK;apply aJ
    simp[au,aF,Post,bC,res1,bF,bg,aP,bf,aW,okT,okA,ok1,rowOf,Tryz.f124];simp[dL,c1,c2,c3]
theorem GH (L:List Man) (hL:Idx.sz L):CallsOK Tryz.prog 125 [rowT Man.cells L] (iV (dO L)) []:=by
 refine aO mixed Tryz.call125 Tryz.func125 rfl (by rw[Tryz.ntmps125];simp) ?_ rfl;rw[Tryz.ntmps125];have hl:=hL.1;refine aR fun K' hK=> ?_
 simp;apply hK;clear K' hK;apply aA;refine aR fun K' hK=> ?_
 simp;apply hK;clear K' hK;refine aC fun A B hA hB=> ?_
 simp;refine⟨fun hn=>hA ?_,fun hn=>hB ?_⟩<;>clear hA hB A B<;>(try simp at hn)<;>(try with_reducible refine aK ?_)
 ·refine aA ?_;refine aR fun K' hK=> ?_
  simp;apply hK;clear K' hK;apply aJ
  simp[au,aF,Post,bC,res1,bF,bg,aP,bf,aW,okT,okA,ok1,rowOf,Tryz.f125];have hn:100<L.length:=(by omega);rw[dO,if_pos hn]
 ·have hn:¬100<L.length:=(by omega);apply aA;refine aR fun K' hK=> ?_
  simp;apply hK;clear K' hK;apply aB
  refine bI (fun s G nx=>s 0=rowT Man.cells L∧∃i:Nat,s 3=iV i∧i≤L.length∧(List.range i).all (uY L)=true) (fun s _ _=>match s 3 with | .v (.int _ n)=>L.length-n.toNat | _=>0) ?_ ?_
  ·exact⟨by simp,0,by simp,by omega,by simp⟩
  ·rintro s G nx hf ⟨s0,i,s3,hi,ht⟩;have hw:IntKind.i64.wrap (↑i+1)=((i+1:Nat):Int):=dw (by omega);apply aA;refine aR fun K' hK=> ?_
   simp[s0,s3];apply hK;clear K' hK;refine aC fun A B hA hB=> ?_
   simp;refine⟨fun hi2=>hA ?_,fun hi2=>hB ?_⟩<;>clear hA hB A B<;>(try simp at hi2)<;>(try with_reducible refine aK ?_)
   ·have hdd:=hL.2 _ (bK hi2);have hfalse:uY L i=false→dO L=1:=fun h=>(by rw[dO,if_neg hn,tN hi2 h];rfl);have hstep:=oJ (p:=uY L) ht;have hdef:uY L i=(decide (dL (nth L i) false=0)&&(decide (i=0) || decide (kM (nth L (i-1)) (nth L i)<0))):=rfl;generalize hgd:nth L i=d at*;apply aB;refine aQ fun K' hK=> ?_
    refine bJ 5 fun K2 hK2=> ?_;simp[s0,s3,hi2,hgd];refine aj (xw d hdd false) rfl (by first | rfl | (simp;done) | (simp;rfl) | (simp;exact⟨rfl,rfl⟩)) ?_;simp;refine hK2 _ _ _ ?_;clear K2 hK2;by_cases hc:dL d false=0
    ·by_cases hz:i=0
     ·have hz':¬(0:Int)<(i:Int):=(by omega);have hz2:¬0<i:=(by omega);refine bJ 8 fun K2 hK2=> ?_;simp[hc,s3,hz',hz2];refine hK2 _ _ _ ?_;clear K2 hK2;simp[hc,hz',hz2];apply hK;clear K' hK;refine aVk (by simp) ?_;apply ak
      refine ah ?_;refine aS fun K' hK=> ?_
      simp[s3,hw];apply hK;clear K' hK;refine ak (ay ?_ ?_)
      ·exact⟨by simp[s0],i+1,by simp[hw],by omega,hstep (by rw[hdef,hc];simp[hz])⟩
      ·simp[s3,hw];omega
     ·obtain⟨p,hp⟩:∃p,i=p+1:=⟨i-1,by omega⟩;have hz':(0:Int)<(i:Int):=(by omega);have hz2:0<i:=(by omega);have hsub:IntKind.i64.wrap ((i:Int)-1)=(p:Int):=(by rw[wrap64 (by omega) (by omega)];omega);have hpl:p<L.length:=(by omega);have hip:i-1=p:=(by omega);rw[hip]at hdef;have hpp:=hL.2 _ (bK hpl);refine bJ 10 fun K2 hK2=> ?_;simp[hc,hz',hz2,s0,s3,hsub,hpl];refine hK2 _ _ _ ?_;clear K2 hK2;simp[hc,hz',hz2,s0,s3,hi2,hgd];refine aj (E5 (nth L p) d hpp.2.1 hdd.2.1) rfl (by first | rfl | (simp;done) | (simp;rfl) | (simp;exact⟨rfl,rfl⟩)) ?_;by_cases hlt:kM (nth L p) d<0
      ·simp[hc,hz',hz2,hlt];apply hK;clear K' hK;refine aVk (by simp) ?_;apply ak
       refine ah ?_;refine aS fun K' hK=> ?_
       simp[s3,hw];apply hK;clear K' hK;refine ak (ay ?_ ?_)
       ·exact⟨by simp[s0],i+1,by simp[hw],by omega,hstep (by rw[hdef,hc];simp[hlt])⟩
       ·simp[s3,hw];omega
      ·simp[hc,hz',hz2,hlt];apply hK;clear K' hK;refine aU (by simp) ?_;apply aA;refine aR fun K' hK=> ?_
       simp;apply hK;clear K' hK;apply aJ
       simp[au,aF,Post,bC,res1,bF,bg,aP,bf,aW,okT,okA,ok1,rowOf,Tryz.f125];exact(hfalse (by rw[hdef,hc];simp[hlt,hz])).symm
    ·refine bJ 8 fun K2 hK2=> ?_;simp[hc];refine hK2 _ _ _ ?_;clear K2 hK2;simp[hc];apply hK;clear K' hK;refine aU (by simp) ?_;apply aA;refine aR fun K' hK=> ?_
     simp;apply hK;clear K' hK;apply aJ
     simp[au,aF,Post,bC,res1,bF,bg,aP,bf,aW,okT,okA,ok1,rowOf,Tryz.f125];exact(hfalse (by rw[hdef];simp[hc])).symm
   ·skip;apply bG
    refine aI (aH ?_);have hi8:i=L.length:=(by omega);subst hi8;refine aR fun K' hK=> ?_
    simp;apply hK;clear K' hK;apply aG
    simp[au,aF,Post,bC,res1,bF,bg,aP,bf,aW,okT,okA,ok1,rowOf,Tryz.f125];rw[dO,if_neg hn,if_pos ht]
theorem JW (root:Man) (L:List Man) (t:List Pl) (hr:Man.sz root) (hL:Idx.sz L) (ht:OKs t):CallsOK Tryz.prog 83 [.agg root.cells,rowT Man.cells L,rowT Pl.cells t] (iV (codeV root L t)) []:=by
 refine aO mixed Tryz.call83 Tryz.func83 rfl (by rw[Tryz.ntmps83];simp) ?_ rfl;rw[Tryz.ntmps83];refine aR fun K' hK=> ?_
 simp;apply hK;clear K' hK;refine aR fun K' hK=> ?_
 simp;refine aj (xw root hr true) rfl (by first | rfl | (simp;done) | (simp;rfl) | (simp;exact⟨rfl,rfl⟩)) ?_;simp;apply hK;clear K' hK;by_cases c1:dL root true=0
 ·refine aA ?_;refine aR fun K' hK=> ?_
  simp[c1];apply hK;clear K' hK;refine aYk (by simp) ?_;refine aR fun K' hK=> ?_
  simp;refine aj (GH L hL) rfl (by first | rfl | (simp;done) | (simp;rfl) | (simp;exact⟨rfl,rfl⟩)) ?_;simp;apply hK;clear K' hK;by_cases c2:dO L=0
  ·refine aA ?_;refine aR fun K' hK=> ?_
   simp[c2];apply hK;clear K' hK;refine aYk (by simp) ?_;refine aR fun K' hK=> ?_
   simp;refine aj (yJ t ht) rfl (by first | rfl | (simp;done) | (simp;rfl) | (simp;exact⟨rfl,rfl⟩)) ?_;simp;apply hK;clear K' hK;apply aG
   simp[au,aF,Post,bC,res1,bF,bg,aP,bf,aW,okT,okA,ok1,rowOf,Tryz.f83];simp only[codeV,fZ,orN,c1,c2,if_true];split
   ·assumption
   ·rfl
  ·refine aA ?_;refine aR fun K' hK=> ?_
   simp[c2];apply hK;clear K' hK;refine aX (by simp[c2]) ?_;apply aA;refine aR fun K' hK=> ?_
   simp;apply hK;clear K' hK;apply aJ
   simp[au,aF,Post,bC,res1,bF,bg,aP,bf,aW,okT,okA,ok1,rowOf,Tryz.f83];simp[codeV,fZ,orN,c1,c2]
 ·refine aA ?_;refine aR fun K' hK=> ?_
  simp[c1];apply hK;clear K' hK;refine aX (by simp[c1]) ?_;apply aA;refine aR fun K' hK=> ?_
  simp;apply hK;clear K' hK;apply aJ
  simp[au,aF,Post,bC,res1,bF,bg,aP,bf,aW,okT,okA,ok1,rowOf,Tryz.f83];simp[codeV,fZ,orN,c1]
theorem EX (d:Dep):CallsOK Tryz.prog 133 [.agg d.cells] (bV (!decide (d.kind=3))) []:=by
 refine aO mixed Tryz.call133 Tryz.func133 rfl (by rw[Tryz.ntmps133];simp) ?_ rfl;rw[Tryz.ntmps133];refine aR fun K' hK=> ?_
 simp;apply hK;clear K' hK;refine aR fun K' hK=> ?_
 simp;apply hK;clear K' hK;apply aG
 simp[au,aF,Post,bC,res1,bF,bg,aP,bf,aW,okT,okA,ok1,rowOf,Tryz.f133]
theorem Dy (t:List Pl) (g:Good t) (ht:OKs t) (n:Nat) (hn:n<t.length) (d:Dep):CallsOK Tryz.prog 92 [rowT Pl.cells t,iV n,.agg d.cells] (iV (toN t n d)) []:=by
 refine aO mixed Tryz.call92 Tryz.func92 rfl (by rw[Tryz.ntmps92];simp) ?_ rfl;rw[Tryz.ntmps92];have hB:¬((n:Int)<0∨(t.length:Int)≤n):=(by omega);have hv:toN t n d=dI t (if d.kind=4∧(0:Int)<n then(nth t (n:Int).toNat).par else n) d.name:=(by rw[toN,if_neg hB]);rw[Int.toNat_natCast]at hv;rw[hv];refine aR fun K' hK=> ?_
 simp;apply hK;clear K' hK;refine aR fun K' hK=> ?_
 simp;apply hK;clear K' hK;by_cases c:d.kind=4
 ·by_cases c2:0<n
  ·have c2':(0:Int)<n:=(by omega);obtain⟨p0,p1⟩:=g.par n (by omega) hn;have hp:(nth t n).par=((parN t n).toNat:Nat):=(by show parN t n=_;omega);have hR:=mJ t g ht (parN t n).toNat (by omega) d.name;rw[if_pos ⟨c,c2'⟩,hp];apply aA;refine aR fun K' hK=> ?_
   simp[c,c2,c2'];apply hK;clear K' hK;refine aX (by simp) ?_;refine aR fun K' hK=> ?_
   simp[hn,hp];apply hK;clear K' hK;refine aR fun K' hK=> ?_
   simp;refine aj hR rfl (by first | rfl | (simp;done) | (simp;rfl) | (simp;exact⟨rfl,rfl⟩)) ?_;simp;apply hK;clear K' hK;apply aG
   simp[au,aF,Post,bC,res1,bF,bg,aP,bf,aW,okT,okA,ok1,rowOf,Tryz.f92]
  ·have c2':¬(0:Int)<n:=(by omega);rw[if_neg (fun h=>c2' h.2)];apply aA;refine aR fun K' hK=> ?_
   simp[c,c2,c2'];apply hK;clear K' hK;refine aYk (by simp) ?_;refine aR fun K' hK=> ?_
   simp;refine aj (mJ t g ht n hn d.name) rfl (by first | rfl | (simp;done) | (simp;rfl) | (simp;exact⟨rfl,rfl⟩)) ?_;simp;apply hK;clear K' hK;apply aG
   simp[au,aF,Post,bC,res1,bF,bg,aP,bf,aW,okT,okA,ok1,rowOf,Tryz.f92]
 ·rw[if_neg (fun h=>c h.1)];apply aA;refine aR fun K' hK=> ?_
  simp[c];apply hK;clear K' hK;refine aYk (by simp[c]) ?_;refine aR fun K' hK=> ?_
  simp;refine aj (mJ t g ht n hn d.name) rfl (by first | rfl | (simp;done) | (simp;rfl) | (simp;exact⟨rfl,rfl⟩)) ?_;simp;apply hK;clear K' hK;apply aG
  simp[au,aF,Post,bC,res1,bF,bg,aP,bf,aW,okT,okA,ok1,rowOf,Tryz.f92]
theorem qE (t:List Pl) (g:Good t) (ht:OKs t) (hv:∀p∈t,p.ver.pre.size≤1000000) (n:Nat) (hn:n<t.length) (d:Dep) (hd:Rg.sz d.range):CallsOK Tryz.prog 91 [rowT Pl.cells t,iV n,.agg d.cells] (bV (holdsV t n d)) []:=by
 refine aO mixed Tryz.call91 Tryz.func91 rfl (by rw[Tryz.ntmps91];simp) ?_ rfl;rw[Tryz.ntmps91];have hdef:holdsV t n d=if toN t n d<0 then decide (d.kind=3)else dS (nth t (toN t n d).toNat).ver d.range:=(by rw[holdsV,if_pos (fK.2 ⟨g,by omega,by omega⟩)]);have hlt:=QX t n d;refine aR fun K' hK=> ?_
 simp;apply hK;clear K' hK;refine aR fun K' hK=> ?_
 simp;refine aj (Dy t g ht n hn d) rfl (by first | rfl | (simp;done) | (simp;rfl) | (simp;exact⟨rfl,rfl⟩)) ?_;simp;apply hK;clear K' hK;rw[hdef];generalize toN t n d=k at*;by_cases hk:k<0
 ·refine aA ?_;refine aR fun K' hK=> ?_
  simp[hk];apply hK;clear K' hK;refine aX (by simp) ?_;apply aA;refine aR fun K' hK=> ?_
  simp;refine aj (EX d) rfl (by first | rfl | (simp;done) | (simp;rfl) | (simp;exact⟨rfl,rfl⟩)) ?_;simp;apply hK;clear K' hK;apply aJ
  simp[au,aF,Post,bC,res1,bF,bg,aP,bf,aW,okT,okA,ok1,rowOf,Tryz.f91];exact fun h=>by omega
 ·have hk0:0≤k:=(by omega);have hin:k.toNat<t.length:=(by omega);apply aA;refine aR fun K' hK=> ?_
  simp[hk];apply hK;clear K' hK;refine aYk (by simp) ?_
  generalize hj:k.toNat=j at*;refine aQ fun K' hK=> ?_
  simp[hk0,hlt,hin,hj];refine aj (zG d.range (nth t j).ver hd (hv _ (bK hin))) rfl (by simp[Rg.cells]) ?_;simp;apply hK;clear K' hK;apply aG
  simp[au,aF,Post,bC,res1,bF,bg,aP,bf,aW,okT,okA,ok1,rowOf,Tryz.f91];exact fun h=>by omega
set_option maxRecDepth 100000
set_option maxHeartbeats 4000000
theorem SX (rules:List Ru) (b:Bool) (hrl:Ru.okL rules):CallsOK Tryz.prog 89 [.agg FY,rowT Ru.cells rules,bV b] (.row 0 0) [(35,[])]:=by
 have h:=Bq Qn rules b ⟨by simp[Qn],by simp[Qn]⟩ (by simp[Qn]) hrl;have e:ofF Qn.deps rules b=[]:=NU rules b;rw[e]at h;exact h.weak (.cons (.agg (.cons (.refl _) (.cons (.refl _) (.cons (.refl _) (.cons (.refl _) (.cons (.refl _) (.cons .nilRow (.cons .nilRow .nil)))))))) (.cons (.refl _) (.cons (.refl _) .nil)))
theorem Jy {root:Man} {L:List Man} {t:List Pl} {n:Nat} (g:Good t) (hn:n<t.length):manVal root L t n=if n=0 then some root else jD L (nth t n).name (nth t n).ver:=by
 unfold manVal;rw[if_pos (fK.2 ⟨g,by omega,by omega⟩),Int.toNat_natCast];by_cases h:n=0
 ·rw[if_pos h,if_pos (by omega)]
 ·rw[if_neg h,if_neg (by omega)]
theorem qh (root:Man) (hr:Man.sz root) (hro:Man.okS root) (L:List Man) (hL:Idx.sz L) (hLo:∀m∈L,Man.okS m) (t:List Pl) (g:Good t) (n:Nat) (hn:n<t.length):
  CallsOK Tryz.prog 47 [.agg root.cells,rowT Man.cells L,rowT Pl.cells t,iV n] (.tup [.row 0 (edgesV root L t n).length,bV (manVal root L t n).isSome]) [(35,flat Dep.cells (edgesV root L t n))]:=by
 refine aO mixed Tryz.call47 Tryz.func47 rfl (by rw[Tryz.ntmps47];simp) ?_ rfl;rw[Tryz.ntmps47];have hmv:=Jy (root:=root) (L:=L) g hn;unfold edgesV;refine aR fun K' hK=> ?_
 simp;apply hK;clear K' hK;by_cases hz:n=0
 ·rw[if_pos hz]at hmv;rw[hmv];subst hz;apply aA;refine aR fun K' hK=> ?_
  simp;apply hK;clear K' hK;refine aX (by simp) ?_;apply aA;refine aR fun K' hK=> ?_
  simp;refine aN (Bq root root.rules true hro.1 hr.2.2.1.1 hro.2) (by first | rfl | (simp;done) | (simp;rfl) | (simp;exact⟨rfl,rfl⟩)) ?_;simp[bH];apply hK;clear K' hK;apply aJ
  simp[au,aF,Post,bC,res1,bF,bg,aP,bf,aW,okT,okA,ok1,rowOf,Tryz.f47]
 ·rw[if_neg hz]at hmv;rw[hmv];have hz2:¬(n:Int)=0:=(by omega);have hdec:decide ((n:Int)=0)=false:=(by simpa using hz);rw[hdec];apply aA;refine aR fun K' hK=> ?_
  simp[hz,hz2];apply hK;clear K' hK;refine aYk (by simp) ?_
  have hF:=Lh L hL.1 hLo (nth t n).name (nth t n).ver;have hmm:∀m,jD L (nth t n).name (nth t n).ver=some m→Man.sz m∧Man.okS m:=fun m h=>by
   have:=List.mem_of_find?_eq_some h;exact⟨hL.2 _ this,hLo _ this⟩
  generalize jD L (nth t n).name (nth t n).ver=r at*;cases r with
  | none=>
   refine eY none [] (by decide+kernel) (by decide+kernel) (fun p' hp'=>by cases hp') fun K' hK=> ?_;simp[hn];refine aN hF (by first | rfl | (simp;done) | (simp;rfl) | (simp;exact⟨rfl,rfl⟩)) ?_;simp[uK,dG];apply hK;clear K' hK;refine aR fun K' hK=> ?_
   simp;refine aN (SX root.rules false hro.2) (by first | rfl | (simp;done) | (simp;rfl) | (simp;exact⟨rfl,rfl⟩)) ?_;simp[bH];apply hK;clear K' hK;apply aG
   simp[au,aF,Post,bC,res1,bF,bg,aP,bf,aW,okT,okA,ok1,rowOf,Tryz.f47]
  | some m=>
   obtain⟨mz,mo⟩:=hmm m rfl;refine eY none [] (by decide+kernel) (by decide+kernel) (fun p' hp'=>by cases hp') fun K' hK=> ?_;simp[hn];refine aN hF (by first | rfl | (simp;done) | (simp;rfl) | (simp;exact⟨rfl,rfl⟩)) ?_;simp[uK,jV];apply hK;clear K' hK;refine fO (fun u H nz=>u 4=.ptr 0 0∧u 10=.ptr 4 0∧u 11=bV true∧nz=5∧H 0=some (.var 27 root.cells)∧H 2=some (.row 35 (flat Dep.cells m.deps))∧H 3=some (.row 134 (flat Ru.cells m.rules))∧H 4=some (.var 27 (m.dX (.row 2 m.deps.length) (.row 3 m.rules.length)))) ?_ ?_
   ·exact⟨by simp,by simp,by simp,by simp,by simp,by simp,by simp,by simp⟩
   rintro u H nz ⟨u4,u10,u11,rfl,h0,k1,k2,k3⟩;have hT:=lq (show¬3=2 by omega) k1 k2;refine aR fun K' hK=> ?_
   simp[u4,u10,h0,k3];refine aN (Bq m root.rules false mo.1 mz.2.2.1.1 hro.2) (by simp[hT]) ?_;simp[bH,hT,u11];apply hK;clear K' hK;apply aG
   simp[au,aF,Post,bC,res1,bF,bg,aP,bf,aW,okT,okA,ok1,rowOf,Tryz.f47]
theorem I4 {root:Man} {L:List Man} {t:List Pl} {n:Nat} :gB root L t n=((manVal root L t n).isSome&&(edgesV root L t n).all (holdsV t n)):=by
 unfold gB edgesV;cases manVal root L t n with
 | none=>rfl
 | some m=>rfl
theorem Nv {root:Man} {L:List Man} {t:List Pl} {n:Nat} (hr:Man.sz root) (hL:Idx.sz L):(edgesV root L t n).length≤1000000000∧∀d∈edgesV root L t n,Rg.sz d.range:=by
 unfold edgesV;cases hm:manVal root L t n with
 | none=>exact⟨by simp,fun d hd=>by simp at hd⟩
 | some m=>
  have hmz:Man.sz m:=by
   rcases jY hm with rfl | h
   ·exact hr
   ·exact hL.2 _ h
  exact⟨nJ hmz.2.2.1.1,fun d hd=>by
   rcases xG hd with⟨e,he,h⟩ | ⟨e,he,h⟩
   ·rw[h];exact(hmz.2.2.1.2 e he).2
   ·rw[h];exact(hr.2.2.2.2 e he).2⟩
theorem Ov (root:Man) (L:List Man) (t:List Pl) (h:gy root L t) (g:Good t) (n:Nat) (hn:n<t.length):CallsOK Tryz.prog 84 [.agg root.cells,rowT Man.cells L,rowT Pl.cells t,iV n] (bV (gB root L t n)) []:=by
 obtain⟨hrz,hro,hLz,hLo,ht,hv⟩:=h;refine aO mixed Tryz.call84 Tryz.func84 rfl (by rw[Tryz.ntmps84];simp) ?_ rfl;rw[Tryz.ntmps84];have hE:=qh root hrz hro L hLz hLo t g n hn;have hf:=I4 (root:=root) (L:=L) (t:=t) (n:=n);obtain⟨hEl,hEz⟩:=Nv (root:=root) (L:=L) (t:=t) (n:=n) hrz hLz;generalize edgesV root L t n=E at*;generalize (manVal root L t n).isSome=ok0 at*;generalize gB root L t n=F at*;refine aR fun K' hK=> ?_
 simp;apply hK;clear K' hK;refine aR fun K' hK=> ?_
 simp;refine aN hE (by first | rfl | (simp;done) | (simp;rfl) | (simp;exact⟨rfl,rfl⟩)) ?_;simp[bH];apply hK;clear K' hK;apply aA;refine aR fun K' hK=> ?_
 simp;apply hK;clear K' hK;apply aB
 refine bI (fun s G nx=>s 2=rowT Pl.cells t∧s 3=iV n∧s 9=.row 1 E.length∧G 1=some (.row 35 (flat Dep.cells E))∧∃j:Nat,s 11=iV j∧j≤E.length∧s 10=bV (ok0&&(E.take j).all (holdsV t n))) (fun s _ _=>match s 11 with | .v (.int _ n)=>E.length-n.toNat | _=>0) ?_ ?_
 ·exact⟨by simp,by simp,by simp,by simp,0,by simp,by omega,by simp⟩
 ·rintro s G nx hfr ⟨s2,s3,s9,g1,j,s11,hj,s10⟩;have hw:IntKind.i64.wrap (↑j+1)=((j+1:Nat):Int):=dw (by omega);by_cases hj2:j<E.length
  ·have hstep:=iR (p:=holdsV t n) hj2;have hall:(ok0&&(E.take j).all (holdsV t n))=false→F=false:=fun h=>by
    rw[hf];cases ok0 with
    | false=>rfl
    | true=>
     simp only[Bool.true_and]at h⊢;rw[←List.take_append_drop j E,List.all_append,h];rfl
   generalize hcur:(ok0&&(E.take j).all (holdsV t n))=cur at*;cases cur with
   | false=>
    apply aA;refine aR fun K' hK=> ?_
    simp[s9,s10,s11,g1,hj2];apply hK;clear K' hK;refine aY (by simp) ?_;apply bG
    refine aI (aH ?_);refine aR fun K' hK=> ?_
    simp[s10];apply hK;clear K' hK;apply aG
    simp[au,aF,Post,bC,res1,bF,bg,aP,bf,aW,okT,okA,ok1,rowOf,Tryz.f84];first | exact hall rfl | exact(hall rfl).symm
   | true=>
    apply aA;refine aR fun K' hK=> ?_
    simp[s9,s10,s11,g1,hj2];apply hK;clear K' hK;refine aXk (by simp) ?_;apply aB;refine aS fun K' hK=> ?_
    simp[s2,s3,s9,s11,g1,hj2];refine aj (qE t g ht hv n hn (nth E j) (hEz _ (bK hj2))) rfl (by first | rfl | (simp;done) | (simp;rfl) | (simp;exact⟨rfl,rfl⟩)) ?_;simp;apply hK;clear K' hK;apply ak
    refine ah ?_;refine aS fun K' hK=> ?_
    simp[s11,hw];apply hK;clear K' hK;refine ak (ay ?_ ?_)
    ·exact⟨by simp[s2],by simp[s3],by simp[s9],by simp[g1],j+1,by simp[hw],by omega,by rw[hstep,←Bool.and_assoc,hcur];simp⟩
    ·simp[s11,hw];omega
  ·have hjE:j=E.length:=(by omega);rw[hjE,List.take_length,←hf]at s10;apply aA;refine aR fun K' hK=> ?_
   simp[s9,s10,s11,g1,hj2];apply hK;clear K' hK;refine aY (by simp) ?_;apply bG
   refine aI (aH ?_);refine aR fun K' hK=> ?_
   simp[s10];apply hK;clear K' hK;apply aG
   simp[au,aF,Post,bC,res1,bF,bg,aP,bf,aW,okT,okA,ok1,rowOf,Tryz.f84]
theorem Iq {t:List Pl} (g:Good t):eH t 0=(List.range t.length).map fun(n:Nat)=>(n:Int):=by
 unfold eH;rw[if_pos (fK.2 ⟨g,by omega,by have:=g.pos;omega⟩)];unfold iP;congr 1;rw[List.filter_eq_self];intro j hj;have hj:=List.mem_range.1 hj;have hmem:=xY g hj;have hb:=xA (i:=0) g g.pos hj;have hu:fJ t j (0:Nat)=true:=by
  rw[←hb];exact List.any_eq_true.2 ⟨_,hmem,by simp⟩
 simpa using hu
theorem P7 {root:Man} {L:List Man} {t:List Pl} (g:Good t):jP root L t=((List.range t.length).filter fun n=> !gB root L t (n:Nat)).map fun(n:Nat)=>(n:Int):=by
 unfold jP;rw[Iq g,List.filter_map];rfl
set_option maxRecDepth 100000
set_option maxHeartbeats 4000000
theorem MQ (L:List Man) (hl:L.length≤1000000000) (b:Bs):CallsOK Tryz.prog 94 [rowT Man.cells L,sV b] (.row 0 (fP L b).length) [(23,flat Ver.cells (fP L b))]:=by
 refine aO mixed Tryz.call94 Tryz.func94 rfl (by rw[Tryz.ntmps94];simp) ?_ rfl;rw[Tryz.ntmps94];refine aR fun K' hK=> ?_
 simp;apply hK;clear K' hK;refine aR fun K' hK=> ?_
 simp;apply hK;clear K' hK;apply aA;refine aR fun K' hK=> ?_
 simp;apply hK;clear K' hK;apply aB
 refine bI (fun s G nx=>s 0=rowT Man.cells L∧s 1=sV b∧∃(i r:Nat) (acc:List Ver),s 6=iV i∧i≤L.length∧acc=fP (L.take i) b∧s 5=.row r acc.length∧G r=some (.row 23 (flat Ver.cells acc))∧r<nx) (fun s _ _=>match s 6 with | .v (.int _ n)=>L.length-n.toNat | _=>0) ?_ ?_
 ·exact⟨by simp,by simp,0,1,[],by simp,by omega,by simp[fP],by simp,by simp,by omega⟩
 rintro s G nx-⟨s0,s1,i,r,acc,s6,hi,hacc,s5,gr,hr⟩;have hw:IntKind.i64.wrap (↑i+1)=((i+1:Nat):Int):=dw (by omega);have nr:¬r=nx:=(by omega);have rn:¬nx=r:=(by omega);apply aA;refine aR fun K' hK=> ?_
 simp[s0,s6];apply hK;clear K' hK;refine aC fun A B hA hB=> ?_
 simp;refine⟨fun hi2=>hA ?_,fun hi2=>hB ?_⟩<;>clear hA hB A B<;>(try simp at hi2)<;>(try with_reducible refine aK ?_)
 ·have hst:=CV (b:=b) hi2;have hal:acc.length≤i:=by
   have:=AP (L:=L.take i) b;rw[List.length_take,←hacc]at this;omega
  rw[←hacc]at hst;have b1:acc.length+1≤9223372036854775807:=(by omega);have b2:(acc.length+1)*40≤140737488355328:=(by omega);have hfl:flat Ver.cells acc++(nth L i).ver.cells=flat Ver.cells (acc++[(nth L i).ver]):=(by rw[dZ]);apply aB
  by_cases hn:(nth L i).name=b
  ·rw[if_pos hn]at hst;refine aR fun K' hK=> ?_
   simp[s0,s1,s6,hi2,hn];apply hK;clear K' hK;refine aU (by simp) ?_;refine aR fun K' hK=> ?_
   simp[s0,s5,s6,hi2,gr,nr,rn,b1,b2,hfl,bQ,dB];apply hK;clear K' hK;apply ak
   refine ah ?_;refine aS fun K' hK=> ?_
   simp[s6,hw];apply hK;clear K' hK;refine ak (ay ?_ ?_)
   ·exact⟨by simp[s0],by simp[s1],i+1,nx+1,acc++[(nth L i).ver],by simp[hw],by omega,hst.symm,by simp,by simp,by omega⟩
   ·simp[s6,hw];omega
  ·rw[if_neg hn,List.append_nil]at hst;refine aR fun K' hK=> ?_
   simp[s0,s1,s6,hi2,hn];apply hK;clear K' hK;refine aVk (by simp) ?_;apply ak
   refine ah ?_;refine aS fun K' hK=> ?_
   simp[s6,hw];apply hK;clear K' hK;refine ak (ay ?_ ?_)
   ·exact⟨by simp[s0],by simp[s1],i+1,r,acc,by simp[hw],by omega,hst.symm,by simp[s5],gr,hr⟩
   ·simp[s6,hw];omega
 ·skip;apply bG
  refine aI (aH ?_);rw[List.take_of_length_le (by omega)]at hacc;subst hacc;refine aR fun K' hK=> ?_
  simp[s5];apply hK;clear K' hK;apply aG
  simp[au,aF,Post,bC,res1,bF,bg,aP,bf,aW,okT,okA,ok1,rowOf,Tryz.f94,gr]
theorem I8 (l:List Ver) (hz:Ver.szL l) (hu:UpV l):CallsOK Tryz.prog 173 [rowT Ver.cells l] (.row 0 l.length) [(23,flat Ver.cells l)]:=by
 refine aO mixed Tryz.call173 Tryz.func173 rfl (by rw[Tryz.ntmps173];simp) ?_ rfl;rw[Tryz.ntmps173];have hll:=hz.1;refine aR fun K' hK=> ?_
 simp;apply hK;clear K' hK;refine aR fun K' hK=> ?_
 simp;apply hK;clear K' hK;apply aA;refine aR fun K' hK=> ?_
 simp;apply hK;clear K' hK;apply aB
 refine bI (fun s G nx=>s 0=rowT Ver.cells l∧∃(i r:Nat),s 4=iV i∧i≤l.length∧s 3=.row r i∧G r=some (.row 23 (flat Ver.cells (l.take i)))∧r<nx) (fun s _ _=>match s 4 with | .v (.int _ n)=>l.length-n.toNat | _=>0) ?_ ?_
 ·exact⟨by simp,0,1,by simp,by omega,by simp,by simp,by omega⟩
 rintro s G nx-⟨s0,i,r,s4,hi,s3,gr,hr⟩;have hw:IntKind.i64.wrap (↑i+1)=((i+1:Nat):Int):=dw (by omega);apply aA;refine aR fun K' hK=> ?_
 simp[s0,s4];apply hK;clear K' hK;refine aC fun A B hA hB=> ?_
 simp;refine⟨fun hi2=>hA ?_,fun hi2=>hB ?_⟩<;>clear hA hB A B<;>(try simp at hi2)<;>(try with_reducible refine aK ?_)
 ·have hok:=PW hu hi2;have hzi:=hz.2 _ (bK hi2);have hst:=take_snoc hi2;have hlt:(l.take i).length=i:=(by simp;omega);have hcat:∀j,j<i→nth (l.take i) j=nth l j:=fun j hj=>by
   rw[bZ (by omega),bZ (by omega),List.getElem_take]
  have hgt:∀j,j<i→0<dW (nth l i) (nth l j):=fun j hj=>TQ hu hj hi2;have hcs:∀j,j<i→CallsOK Tryz.prog 203 [.agg (nth l i).cells,.agg (nth l j).cells] (iV (dW (nth l i) (nth l j))) []:=fun j hj=>mO _ _ hzi (hz.2 _ (bK (by omega)));have hst2:∀j,j<i→(l.take i).take (j+1)=(l.take i).take j++[nth l j]:=fun j hj=>by
   have:=take_snoc (l:=l.take i) (i:=j) (by omega);rw[hcat j hj]at this;exact this
  generalize hgv:nth l i=v at*;generalize hgp:l.take i=p at*;apply aB;apply aA;refine aR fun K' hK=> ?_
  simp[s0,s4,hi2,hgv];refine aj (jd v (by omega)) rfl (by simp) ?_;simp;apply hK;clear K' hK;refine aYk (by simp[hok]) ?_;refine aR fun K' hK=> ?_
  simp;apply hK;clear K' hK;refine aR fun K' hK=> ?_
  simp;apply hK;clear K' hK;apply aA;refine aR fun K' hK=> ?_
  simp;apply hK;clear K' hK;apply aB
  refine bI (fun s G nx=>s 0=rowT Ver.cells l∧s 3=.row r i∧s 4=iV i∧s 6=bV false∧G r=some (.row 23 (flat Ver.cells p))∧r<nx∧∃(j q:Nat),s 7=iV j∧j≤i∧s 5=.row q j∧G q=some (.row 23 (flat Ver.cells (p.take j)))∧q<nx∧¬q=r) (fun s _ _=>match s 7 with | .v (.int _ n)=>i-n.toNat | _=>0) ?_ ?_
  ·have n1:¬r=nx:=(by omega);have n2:¬nx=r:=(by omega);exact⟨by simp[s0],by simp[s3],by simp[s4],by simp,by simp[n1,gr],by omega,0,nx,by simp,by omega,by simp,by simp,by omega,by omega⟩
  ·have o4:=s4;clear s0 s3 s4 gr hr;rintro s G nx-⟨s0,s3,s4,s6,gr,hr,j,q,s7,hj,s5,gq,hq,hqr⟩;have hw:IntKind.i64.wrap (↑j+1)=((j+1:Nat):Int):=dw (by omega);have nr:¬r=nx:=(by omega);have rn:¬nx=r:=(by omega);have nq:¬q=nx:=(by omega);have qn:¬nx=q:=(by omega);have rq:¬r=q:=fun e=>hqr e.symm;have nr1:¬r=nx+1:=(by omega);have nq1:¬q=nx+1:=(by omega);apply aA;refine aR fun K' hK=> ?_
   simp[s3,s7,gr];apply hK;clear K' hK;refine aC fun A B hA hB=> ?_
   simp;refine⟨fun hj2=>hA ?_,fun hj2=>hB ?_⟩<;>clear hA hB A B<;>(try simp at hj2)<;>(try with_reducible refine aK ?_)
   ·have hg:=hgt j hj2;have hn1:¬dW v (nth l j)<0:=(by omega);have hn2:¬dW v (nth l j)≤0:=(by omega);have hc:=hcs j hj2;have hs2:=hst2 j hj2;have hnp:=hcat j hj2;have hjp:j<p.length:=(by omega);have b1:j+1≤9223372036854775807:=(by omega);have b2:(j+1)*40≤140737488355328:=(by omega);have hmin:min j p.length=j:=(by omega);have hmin2:min j i=j:=(by omega);apply aB;refine aQ fun K' hK=> ?_
    simp[s0,s3,s4,s7,gr,hi2,hgv,hjp,hj2,hnp,hlt];refine aj hc rfl (by simp) ?_;simp;apply hK;clear K' hK;apply aA;refine aR fun K' hK=> ?_
    simp[s6,hn1];apply hK;clear K' hK;refine aYk (by simp) ?_;refine aR fun K' hK=> ?_
    simp[s6,hn2];apply hK;clear K' hK;refine aS fun K' hK=> ?_
    simp[s3,s5,s7,gr,gq,hjp,hj2,hnp,nr,rn,nq,qn,rq,hqr,nr1,nq1,b1,b2,hmin,hmin2,hlt,bQ,dB];apply hK;clear K' hK;apply ak
    refine ah ?_;refine aS fun K' hK=> ?_
    simp[s7,hw];apply hK;clear K' hK;refine ak (ay ?_ ?_)
    ·exact⟨by simp[s0],by simp[s3],by simp[s4],by simp[s6],by simp[nr,nr1,rq,gr],by omega,j+1,nx+1,by simp[hw],by omega,by simp,by rw[hs2,dZ];simp,by omega,by omega⟩
    ·simp[s7,hw];omega
   ·skip;apply bG
    refine aI (aH ?_);have hje:j=i:=(by omega);subst hje;have hpt:p.take j=p:=List.take_of_length_le (by omega);rw[hpt]at gq;have b1:j+1≤9223372036854775807:=(by omega);have b2:(j+1)*40≤140737488355328:=(by omega);apply aA;refine aR fun K' hK=> ?_
    simp[s6];apply hK;clear K' hK;refine aX (by simp) ?_;refine aR fun K' hK=> ?_
    simp[s0,s4,s5,gq,hi2,hgv,nq,qn,nq1,b1,b2,hlt,bQ,dB];apply hK;clear K' hK;refine aS fun K' hK=> ?_
    simp;apply hK;clear K' hK;apply ak
    refine ah ?_;refine aS fun K' hK=> ?_
    simp[s4,hw];apply hK;clear K' hK;refine ak (ay ?_ ?_)
    ·exact⟨by simp[s0],j+1,nx+1,by simp[hw],by omega,by simp,by rw[hst,dZ];simp,by omega⟩
    ·simp[o4,s4,hw];omega
 ·skip;apply bG
  refine aI (aH ?_);have hie:i=l.length:=(by omega);subst hie;rw[List.take_length]at gr;refine aR fun K' hK=> ?_
  simp[s3];apply hK;clear K' hK;apply aG
  simp[au,aF,Post,bC,res1,bF,bg,aP,bf,aW,okT,okA,ok1,rowOf,Tryz.f173,gr]
theorem KU (l:List Ver) (hz:Ver.szL l) (hu:UpV l) (r:Rg) (hr:Rg.sz r):CallsOK Tryz.prog 136 [rowT Ver.cells l,.agg r.cells] (.row 0 (allL l r).length) [(23,flat Ver.cells (allL l r))]:=by
 refine aO mixed Tryz.call136 Tryz.func136 rfl (by rw[Tryz.ntmps136];simp) ?_ rfl;rw[Tryz.ntmps136];have hll:=hz.1;have hw0:IntKind.i64.wrap ((l.length:Int)-1)=(l.length:Int)-1:=wrap64 (by omega) (by omega);refine aR fun K' hK=> ?_
 simp;apply hK;clear K' hK;refine aR fun K' hK=> ?_
 simp;refine aN (I8 l hz hu) (by simp) ?_;simp[bH];apply hK;clear K' hK;refine aR fun K' hK=> ?_
 simp;apply hK;clear K' hK;apply aA;refine aR fun K' hK=> ?_
 simp[hw0];apply hK;clear K' hK;apply aB
 refine bI (fun s G nx=>s 3=.ptr 0 0∧G 0=some (.var 33 r.cells)∧s 5=.row 2 l.length∧G 2=some (.row 23 (flat Ver.cells l))∧∃(k q:Nat) (acc:List Ver),s 7=iV ((k:Int)-1)∧k≤l.length∧acc=(l.drop k).reverse.filter (fun v=>dS v r)∧s 6=.row q acc.length∧G q=some (.row 23 (flat Ver.cells acc))∧q<nx∧2<q) (fun s _ _=>match s 7 with | .v (.int _ n)=>(n+1).toNat | _=>0) ?_ ?_
 ·exact⟨by simp,by simp,by simp,by simp,l.length,3,[],by simp,by omega,by simp,by simp,by simp,by omega,by omega⟩
 rintro s G nx-⟨s3,g0,s5,g2,k,q,acc,s7,hk,hacc,s6,gq,hq,hq2⟩;rcases Nat.eq_zero_or_pos k with rfl | hkp
 ·have e:(((0:Nat):Int)-1)= -1:=(by omega);rw[e]at s7;rw[List.drop_zero]at hacc;have hacc:acc=allL l r:=hacc;subst hacc;apply aA;refine aR fun K' hK=> ?_
  simp[s7];apply hK;clear K' hK;refine aY (by simp) ?_;apply bG
  refine aI (aH ?_);refine aR fun K' hK=> ?_
  simp[s6];apply hK;clear K' hK;apply aG
  simp[au,aF,Post,bC,res1,bF,bg,aP,bf,aW,okT,okA,ok1,rowOf,Tryz.f136,gq]
 ·obtain⟨j,rfl⟩:∃j,k=j+1:=⟨k-1,by omega⟩;have e:(((j+1:Nat):Int)-1)=(j:Int):=(by omega);rw[e]at s7;have hj:j<l.length:=(by omega);have hst:=congrArg (List.filter fun v=>dS v r) (IC hj);rw[List.filter_append,←hacc]at hst;have hst2:List.filter (fun v=>dS v r) [nth l j]=if dS (nth l j) r=true then[nth l j]else[]:=by
   by_cases h:dS (nth l j) r=true<;>simp[h]
  rw[hst2]at hst;have hvz:=hz.2 _ (bK hj);have hle:acc.length≤1000000000:=by
   rw[hacc];refine Nat.le_trans (List.length_filter_le _ _) ?_;simp;omega
  have hw:IntKind.i64.wrap ((j:Int)-1)=(j:Int)-1:=wrap64 (by omega) (by omega);have hj0:(0:Int)≤j:=(by omega);have hH:=zG r (nth l j) hr hvz;have n0:¬0=nx:=(by omega);have n2:¬2=nx:=(by omega);have nq:¬q=nx:=(by omega);have qn:¬nx=q:=(by omega);have q0:¬0=q:=(by omega);have q2:¬2=q:=(by omega);have nx1:¬nx=1:=(by omega);have hfl:flat Ver.cells acc++(nth l j).cells=flat Ver.cells (acc++[nth l j]):=(by rw[dZ]);have b1:acc.length+1≤9223372036854775807:=(by omega);have b2:(acc.length+1)*40≤140737488355328:=(by omega);generalize hgv:nth l j=v at*;apply aA;refine aR fun K' hK=> ?_
  simp[s7,hj0];apply hK;clear K' hK;refine aXk (by simp) ?_;apply aB;refine aQ fun K' hK=> ?_
  simp[s3,s5,s7,g0,g2,hj,hgv];refine aj hH rfl (by simp[Rg.cells]) ?_;simp;apply hK;clear K' hK;by_cases hh:dS v r=true
  ·rw[if_pos hh]at hst;refine aU (by simp[hh]) ?_;refine aR fun K' hK=> ?_
   simp[s5,s6,s7,g2,gq,hj,hgv,n2,nq,qn,q2,b1,b2,hfl,bQ,dB];apply hK;clear K' hK;apply ak
   refine ah ?_;refine aS fun K' hK=> ?_
   simp[s7,hw];apply hK;clear K' hK;refine ak (ay ?_ ?_)
   ·exact⟨by simp[s3],by simp[n0,q0,g0],by simp[s5],by simp[n2,nx1,q2,g2],j,nx+1,acc++[v],by simp[hw],by omega,hst.symm,by simp,by simp,by omega,by omega⟩
   ·simp[s7,hw]
  ·rw[if_neg hh,List.append_nil]at hst;refine aVk (by simp[hh]) ?_;apply ak
   refine ah ?_;refine aS fun K' hK=> ?_
   simp[s7,hw];apply hK;clear K' hK;refine ak (ay ?_ ?_)
   ·exact⟨by simp[s3],g0,by simp[s5],g2,j,q,acc,by simp[hw],by omega,hst.symm,by simp[s6],gq,hq,hq2⟩
   ·simp[s7,hw]
theorem MH (l:List Ver) (hz:Ver.szL l) (hu:UpV l) (r:Rg) (hr:Rg.sz r):CallsOK Tryz.prog 93 [rowT Ver.cells l,.agg r.cells] (oW (nG l r)) []:=by
 rw[IB];have hA:=KU l hz hu r hr;refine aO mixed Tryz.call93 Tryz.func93 rfl (by rw[Tryz.ntmps93];simp) ?_ ?_
 ·rw[Tryz.ntmps93];generalize allL l r=a at*;refine aR fun K' hK=> ?_
  simp;apply hK;clear K' hK;refine aR fun K' hK=> ?_
  simp;refine aN hA (by simp[Rg.cells]) ?_;simp[bH];apply hK;clear K' hK;cases a with
  | nil=>
   apply aA;refine aR fun K' hK=> ?_
   simp;apply hK;clear K' hK;refine aX (by simp) ?_;apply aA;refine aR fun K' hK=> ?_
   simp[Qp,Ver.cells];apply hK;clear K' hK;apply aJ
   simp[au,aF,Post,bC,res1,bF,bg,aP,bf,aW,okT,okA,ok1,rowOf,Tryz.f93,oW,Qp,Ver.cells]
  | cons v a=>
   have e:oW ((v::a).head?)=.tup [.agg v.cells,bV true]:=rfl;rw[e];have hp:(0:Int)<((v::a).length:Nat):=(by rw[List.length_cons];omega);have hp2:0<(v::a).length:=(by simp);have hp3:¬(v::a).length=0:=(by simp);have hnv:nth (v::a) 0=v:=rfl;generalize (v::a)=b at*;have hp4:¬(b.length:Int)=0:=(by omega);apply aA;refine aR fun K' hK=> ?_
   simp[hp3,hp4];apply hK;clear K' hK;refine aYk (by simp) ?_;refine aR fun K' hK=> ?_
   simp[hp,hp2,hnv,Ver.cells];apply hK;clear K' hK;apply aG
   simp[au,aF,Post,bC,res1,bF,bg,aP,bf,aW,okT,okA,ok1,rowOf,Tryz.f93,Ver.cells]
 ·cases allL l r<;>rfl
theorem Hl (t:List Pl) (g:Good t) (p:Nat) (b:Bs):CallsOK Tryz.prog 85 [rowT Pl.cells t,iV p,sV b] (bV (!decide (chF t p b=none))) []:=by
 refine aO mixed Tryz.call85 Tryz.func85 rfl (by rw[Tryz.ntmps85];simp) ?_ rfl;rw[Tryz.ntmps85];have htl:=g.le;refine aR fun K' hK=> ?_
 simp;apply hK;clear K' hK;apply aA;refine aR fun K' hK=> ?_
 simp;apply hK;clear K' hK;apply aB
 refine bI (fun s G nx=>s 0=rowT Pl.cells t∧s 1=iV p∧s 2=sV b∧∃i:Nat,s 7=iV i∧1≤i∧i≤t.length∧∀j,j<i→¬(parN t j=p∧(nth t j).name=b)) (fun s _ _=>match s 7 with | .v (.int _ n)=>t.length-n.toNat | _=>0) ?_ ?_
 ·exact⟨by simp,by simp,by simp,1,by simp,by omega,g.pos,fun j hj h=>by
   have:j=0:=(by omega);subst this;have:=gJ g.root;omega⟩
 rintro s G nx-⟨s0,s1,s2,i,s7,hi1,hi,hno⟩;have hw:IntKind.i64.wrap (↑i+1)=((i+1:Nat):Int):=dw (by omega);apply aA;refine aR fun K' hK=> ?_
 simp[s0,s7];apply hK;clear K' hK;refine aC fun A B hA hB=> ?_
 simp;refine⟨fun hi2=>hA ?_,fun hi2=>hB ?_⟩<;>clear hA hB A B<;>(try simp at hi2)<;>(try with_reducible refine aK ?_)
 ·have hpe:(nth t i).par=parN t i:=rfl;apply aB
  by_cases h1:parN t i=p
  ·by_cases h2:(nth t i).name=b
   ·skip;refine aR fun K' hK=> ?_
    simp[s0,s1,s2,s7,hi2,hpe,h1,h2];apply hK;clear K' hK;refine aU (by simp) ?_;apply aA;refine aR fun K' hK=> ?_
    simp;apply hK;clear K' hK;apply aJ
    simp[au,aF,Post,bC,res1,bF,bg,aP,bf,aW,okT,okA,ok1,rowOf,Tryz.f85];intro hc;exact kQ.1 hc i hi2 h1 h2
   ·skip;refine aR fun K' hK=> ?_
    simp[s0,s1,s2,s7,hi2,hpe,h1,h2];apply hK;clear K' hK;refine aVk (by simp) ?_;apply ak
    refine ah ?_;refine aS fun K' hK=> ?_
    simp[s7,hw];apply hK;clear K' hK;refine ak (ay ?_ ?_)
    ·exact⟨by simp[s0],by simp[s1],by simp[s2],i+1,by simp[hw],by omega,by omega,fun j hj h=>by
      rcases Nat.lt_or_ge j i with h3 | h3
      ·exact hno j h3 h
      ·have:j=i:=(by omega);subst this;exact h2 h.2⟩
    ·simp[s7,hw];omega
  ·skip;refine aR fun K' hK=> ?_
   simp[s0,s1,s2,s7,hi2,hpe,h1];apply hK;clear K' hK;refine aVk (by simp) ?_;apply ak
   refine ah ?_;refine aS fun K' hK=> ?_
   simp[s7,hw];apply hK;clear K' hK;refine ak (ay ?_ ?_)
   ·exact⟨by simp[s0],by simp[s1],by simp[s2],i+1,by simp[hw],by omega,by omega,fun j hj h=>by
     rcases Nat.lt_or_ge j i with h3 | h3
     ·exact hno j h3 h
     ·have:j=i:=(by omega);subst this;exact h1 h.1⟩
   ·simp[s7,hw];omega
 ·skip;apply bG
  refine aI (aH ?_);have hc:chF t p b=none:=kQ.2 fun k hk h1 h2=>hno k (by omega) ⟨h1,h2⟩;rw[hc];refine aR fun K' hK=> ?_
  simp;apply hK;clear K' hK;apply aG
  simp[au,aF,Post,bC,res1,bF,bg,aP,bf,aW,okT,okA,ok1,rowOf,Tryz.f85]
set_option maxRecDepth 100000
set_option maxHeartbeats 400000
theorem PL {M:List Dep} {n:Bs} (h:n∈bW M):(findD M n).name=n:=by
 unfold findD;cases hp:posM M n with
 | none=>exact(kE.1 hp h).elim
 | some j=>
  unfold posM at hp;rw[List.findIdx?_eq_some_iff_getElem]at hp;obtain⟨h1,h2,_⟩:=hp;simp only;rw[bZ h1];exact of_decide_eq_true h2
theorem ED (ds:List Dep) (rules:List Ru) (root:Bool):bW (ofF ds rules root)=ng (bW (byM root ds)):=by
 unfold ofF;rw[show∀l:List Dep,bW l=l.map fun d=>d.name from fun _=>rfl,List.map_map]
 conv=>rhs;rw[←List.map_id (ng (bW (byM root ds)))]
 refine List.map_congr_left fun n hn=> ?_;exact PL ((fA _).mem_iff.1 hn)
theorem Nu (ds:List Dep) (rules:List Ru) (root:Bool):(bW (ofF ds rules root)).Nodup:=by
 rw[ED];exact(fA _).nodup_iff.2 (wC _ _)
theorem Ua (ds:List Dep) (rules:List Ru) (root:Bool):(ofF ds rules root).length≤ds.length:=by
 have h:=congrArg List.length (ED ds rules root);rw[(fA _).length_eq]at h;have:=wY root ds;unfold bW at h;simp at h;omega
theorem y9 {root:Man} {L:List Man} {t:List Pl} (g:Good t):edgesV root L t 0=ofF root.deps root.rules true:=by
 have:manVal root L t (0:Nat)=some root:=by
  unfold manVal;rw[if_pos (fK.2 ⟨g,by omega,by have:=g.pos;omega⟩)];rfl
 unfold edgesV;rw[this];rfl
theorem Nc {t:List Pl} (g:Good t) {d:Dep} (h:chF t 0 d.name=none):toN t (0:Nat) d= -1:=by
 rw[Iy g g.pos];have:iO t 0 d=0:=if_neg (by omega);rw[this];exact A8 g g.pos h (by rw[gJ g.root];omega)
theorem Jk {t:List Pl} (g:Good t) {d:Dep} (h:chF t 0 d.name=none):holdsV t (0:Nat) d=decide (d.kind=3):=by
 unfold holdsV;rw[if_pos (fK.2 ⟨g,by omega,by have:=g.pos;omega⟩),Nc g h];rfl
theorem PO {t:List Pl} (g:Good t) {d:Dep} {p:Nat} (h:p∈Kv t 0 d):p=0:=by
 have:=QG g g.pos h;rw[Ah (gJ g.root)]at this;simpa using this
theorem tV {root:Man} {L:List Man} :∀(l:List Dep) {t:List Pl},codeV root L t=0→(∀d∈l,chF t 0 d.name=none)→(bW l).Nodup→t.length+l.length≤40→(∃d∈l,d.kind≠3∧nG (fP L d.name) d.range=none)→eu root L 0 l t=([],180)
 | [],t,_,_,_,_,⟨d,h,_⟩=>by simp at h
 | d::l,t,hc,hch,hnd,hlen,⟨x,hx,hk,hb⟩=>by
  have g:=dM.1 (dA.1 hc).2.2;have hd:=hch d (by simp);have h1:=Nc g hd;have h2:=Jk g hd;have hnd2:d.name∉bW l∧(bW l).Nodup:=by
   unfold bW at hnd⊢;rw[List.map_cons,List.nodup_cons]at hnd;exact hnd
  simp only[List.length_cons]at hlen;have hself:eu root L 0 l t=([],180)∨x=d:=by
   rcases List.mem_cons.1 hx with h | h
   ·exact .inr h
   ·exact .inl (tV l hc (fun y hy=>hch y (by simp[hy])) hnd2.2 (by omega) ⟨x,h,hk,hb⟩)
  have key:dY root L 0 d t=(t,180)∨(dY root L 0 d t=(t,0)∧¬x=d)∨∃v,dY root L 0 d t=(gY t (0:Nat) d.name v,0)∧fM root L t d v 0=true∧¬x=d:=by
   unfold dY;rw[if_neg (by rw[h1];omega)];cases hbv:nG (fP L d.name) d.range with
   | none=>
    simp only;by_cases h3:holdsV t (0:Nat) d=true
    ·rw[if_pos h3];refine .inr (.inl ⟨rfl,fun e=> ?_⟩);subst e;rw[h2]at h3;exact hk (of_decide_eq_true h3)
    ·rw[if_neg h3];exact .inl rfl
   | some v=>
    have hne:¬x=d:=fun e=>(by subst e;rw[hb]at hbv;cases hbv);simp only;rcases kZ (root:=root) (L:=L) (t:=t) (n:=0) (d:=d) (v:=v)with h6 | ⟨p,h6,h7,h8⟩
    ·rw[if_pos (by rw[h6];omega)];by_cases h3:holdsV t (0:Nat) d=true
     ·rw[if_pos h3];exact .inr (.inl ⟨rfl,hne⟩)
     ·rw[if_neg h3];exact .inl rfl
    ·have:=PO g h6;subst this;rw[if_neg (by rw[h8];omega),if_neg (by omega),h8];exact .inr (.inr ⟨v,rfl,h7,hne⟩)
  unfold eu;rcases key with h | ⟨h,hne⟩ | ⟨v,h,h7,hne⟩
  ·rw[h,if_neg (by simp)]
  ·rw[h,if_pos rfl];exact hself.resolve_right hne
  ·rw[h,if_pos rfl];have ha:=(mD h7).1;have hxl:x∈l:=by
    rcases List.mem_cons.1 hx with e | e
    ·exact(hne e).elim
    ·exact e
   refine tV l (G9 hc ha) (fun y hy=> ?_) hnd2.2 (by rw[eU];omega) ⟨x,hxl,hk,hb⟩;rw[Il,hch y (by simp[hy])];refine if_neg fun e=>hnd2.1 ?_;rw[e.2];exact List.mem_map.2 ⟨y,hy,rfl⟩
theorem Kq {root:Man} {L:List Man} (h1:dL root true=0) (h2:dO L=0) {d:Dep} (hd:d∈ofF root.deps root.rules true) (hk:d.kind≠3) (hb:nG (fP L d.name) d.range=none):growS root L [rootP]=([],180):=by
 have hc:codeV root L [rootP]=0:=dA.2 ⟨h1,h2,sW⟩;have g:=dM.1 sW;have hE:=y9 (root:=root) (L:=L) g;have hm:(manVal root L [rootP] (0:Nat)).isSome=true:=by
  unfold manVal;rw[if_pos (fK.2 ⟨g,by omega,by simp⟩)];rfl
 have hl:(ofF root.deps root.rules true).length≤30:=by
  have:=Ua root.deps root.rules true;unfold dL at h1;split at h1
  ·cases h1
  ·omega
 have he:=tV (ofF root.deps root.rules true) hc (fun y _=>by
  cases h:chF [rootP] 0 y.name with
  | none=>rfl
  | some k=>
   obtain⟨a,b,_⟩:=oG h;have:k=0:=(by simp at a;omega);subst this;rw[gJ g.root]at b;omega) (Nu _ _ _) (by simp;omega) ⟨d,hd,hk,hb⟩
 unfold growS;rw[if_pos hc];unfold jg;rw[if_pos (by simp),if_pos hm,hE,he,if_neg (by simp)]
set_option maxRecDepth 100000
set_option maxHeartbeats 4000000
theorem D6 {root:Man} {L:List Man} {t:List Pl} {i:Int} {m:Man} (hr:Man.sz root) (hL:Idx.sz L) (h:manVal root L t i=some m):Man.sz m:=by
 rcases jY h with rfl | h
 ·exact hr
 ·exact hL.2 _ h
theorem jZ {root:Man} {L:List Man} {t:List Pl} {n:Nat} (hr:Man.sz root) (hL:Idx.sz L):∀d∈edgesV root L t n,Rg.sz d.range∧d.name.size≤1000000:=by
 intro d hd;unfold edgesV at hd;cases hm:manVal root L t n with
 | none=>rw[hm]at hd;simp at hd
 | some m=>
  rw[hm]at hd;have hz:=D6 hr hL hm;have hd:d∈ofF m.deps root.rules (decide ((n:Int)=0)):=hd;constructor
  ·rcases xG hd with⟨e,he,h⟩ | ⟨e,he,h⟩
   ·rw[h];exact(hz.2.2.1.2 e he).2
   ·rw[h];exact(hr.2.2.2.2 e he).2
  ·have h1:d.name∈bW (ofF m.deps root.rules (decide ((n:Int)=0))):=List.mem_map.2 ⟨d,hd,rfl⟩;rw[ED,(fA _).mem_iff]at h1;obtain⟨e,he,h2⟩:=List.mem_map.1 h1;rw[←h2];exact(hz.2.2.1.2 e (Ag he)).1
theorem rH {root:Man} {L:List Man} {t:List Pl} {n:Nat} (hr:Man.sz root) (hL:Idx.sz L):(edgesV root L t n).length≤1000000000:=by
 unfold edgesV;cases hm:manVal root L t n with
 | none=>simp
 | some m=>
  have hz:=D6 hr hL hm;exact nJ hz.2.2.1.1
theorem Ar {L:List Man} (hL:Idx.sz L) (h10:L.length≤12) (b:Bs):Ver.szL (fP L b)∧(fP L b).length≤12:=by
 have h1:=AP (L:=L) b;refine⟨⟨by omega,fun v hv=> ?_⟩,by omega⟩;obtain⟨m,hm,_,rfl⟩:=IV hv;exact(hL.2 m hm).2.1
theorem Hy {root:Man} {L:List Man} {t:List Pl} {i:Int} {b:Bs} {v:Ver} (h:gy root L t) (hl:t.length<1000) (hb:b.size≤1000000) (hv:v.pre.size≤1000000):gy root L (gY t i b v):=by
 obtain⟨h1,h2,h3,h4,h5,h6⟩:=h;refine⟨h1,h2,h3,h4,Sz h5 (by omega) (by omega) (by omega),fun p hp=> ?_⟩;unfold gY at hp;rcases List.mem_append.1 hp with hp | hp
 ·exact h6 p hp
 ·simp at hp;subst hp;exact hv
def qy (root:Man) (L:List Man):List AV:=root.cells++[rowT Man.cells L]
@[simp] theorem refP_len (root:Man) (L:List Man):(qy root L).length=8:=rfl
@[simp] theorem refP_root (root:Man) (L:List Man):gX (qy root L) 0 7=some root.cells:=rfl
@[simp] theorem refP_x (root:Man) (L:List Man):gX (qy root L) 7 1=some [rowT Man.cells L]:=rfl
@[simp] theorem refP_all (root:Man) (L:List Man):gX (qy root L) 0 8=some (qy root L):=rfl
@[simp] theorem refP_one (root:Man) (L:List Man):(qy root L).all AV.one=true:=rfl
def qm (root:Man) (L:List Man) (t u:List Pl) (n:Nat):Bool:=(edgesV root L t n).all fun d=> !holdsV t n d || holdsV u n d
theorem DW (root:Man) (L:List Man) (t u:List Pl):mV root L t u=(List.range t.length).all (qm root L t u):=rfl
theorem Cm {p:Nat→Bool} {k:Nat} (h:∀j,j<k→p j=true):(List.range k).all p=true:=List.all_eq_true.2 fun x hx=>h x (List.mem_range.1 hx)
theorem uT {p:Nat→Bool} {k n:Nat} (hn:n<k) (h:p n=false):(List.range k).all p=false:=by
 rw[←Bool.not_eq_true,List.all_eq_true];intro hh;have:=hh n (List.mem_range.2 hn);rw[h]at this;cases this
theorem J5 (root:Man) (L:List Man) (t u:List Pl) (hsz:gy root L t) (hszu:gy root L u) (g:Good t) (gu:Good u) (hle:t.length≤u.length):CallsOK Tryz.prog 87 [.agg (qy root L),rowT Pl.cells t,rowT Pl.cells u] (bV (mV root L t u)) []:=by
 obtain⟨hr,hro,hL,hLo,ht,htv⟩:=id hsz;obtain⟨_,_,_,_,hu,huv⟩:=id hszu;have htl:=g.le;rw[DW];refine aO mixed Tryz.call87 Tryz.func87 rfl (by rw[Tryz.ntmps87];simp) ?_ rfl;rw[Tryz.ntmps87];refine aR fun K' hK=> ?_
 simp;apply hK;clear K' hK;apply aA;refine aR fun K' hK=> ?_
 simp;apply hK;clear K' hK;apply aB
 refine bI (fun s G nx=>s 1=rowT Pl.cells t∧s 2=rowT Pl.cells u∧s 3=.ptr 0 0∧G 0=some (.var 83 (qy root L))∧0<nx∧∃n:Nat,s 7=iV n∧n≤t.length∧∀j,j<n→qm root L t u j=true) (fun s _ _=>match s 7 with | .v (.int _ n)=>t.length-n.toNat | _=>0) ?_ ?_
 ·exact⟨by simp,by simp,by simp,by simp,by omega,0,by simp,by omega,fun j hj=>by omega⟩
 rintro s G nx-⟨s1,s2,s3,g0,hnx,n,s7,hn,hall⟩;have hwn:IntKind.i64.wrap (↑n+1)=((n+1:Nat):Int):=dw (by omega);apply aA;refine aR fun K' hK=> ?_
 simp[s1,s7];apply hK;clear K' hK;refine aC fun A B hA hB=> ?_
 simp;refine⟨fun hn2=>hA ?_,fun hn2=>hB ?_⟩<;>clear hA hB A B<;>(try simp at hn2)<;>(try with_reducible refine aK ?_)
 ·have hE:=qh root hr hro L hL hLo t g n hn2;have hEz:=jZ (t:=t) (n:=n) hr hL;have hEl:=rH (t:=t) (n:=n) hr hL;have hat:qm root L t u n=(edgesV root L t n).all fun d=> !holdsV t n d || holdsV u n d:=rfl;have hG:=fun d (hd:Rg.sz d.range)=>qE t g ht htv n hn2 d hd;have hH:=fun d (hd:Rg.sz d.range)=>qE u gu hu huv n (by omega) d hd;generalize (manVal root L t n).isSome=sm at*;generalize edgesV root L t n=E at*;have n0:¬0=nx:=(by omega);apply aB;refine aR fun K' hK=> ?_
  simp[s1,s3,s7,g0];refine aN hE (by first | rfl | (simp;done) | (simp;rfl) | (simp;exact⟨rfl,rfl⟩)) ?_;simp[bH];apply hK;clear K' hK;refine aR fun K' hK=> ?_
  simp;apply hK;clear K' hK;refine dJ (aB ?_)
  refine bI (fun s G ny=>s 1=rowT Pl.cells t∧s 2=rowT Pl.cells u∧s 3=.ptr 0 0∧G 0=some (.var 83 (qy root L))∧nx<ny∧s 7=iV n∧s 8=.row nx E.length∧G nx=some (.row 35 (flat Dep.cells E))∧∃j:Nat,s 10=iV j∧j≤E.length∧∀i,i<j→(!holdsV t n (nth E i) || holdsV u n (nth E i))=true) (fun s _ _=>match s 10 with | .v (.int _ n)=>E.length-n.toNat | _=>0) ?_ ?_
  ·exact⟨by simp[s1],by simp[s2],by simp[s3],by simp[n0,g0],by omega,by simp[s7],by simp,by simp,0,by simp,by omega,fun j hj=>by omega⟩
  ·have o7:=s7;clear s1 s2 s3 s7 g0;rintro s G ny-⟨s1,s2,s3,g0,hny,s7,s8,ge,j,s10,hj,hok⟩;have hw:IntKind.i64.wrap (↑j+1)=((j+1:Nat):Int):=dw (by omega);apply aA;refine aR fun K' hK=> ?_
   simp[s8,s10,ge];apply hK;clear K' hK;refine aC fun A B hA hB=> ?_
   simp;refine⟨fun hj2=>hA ?_,fun hj2=>hB ?_⟩<;>clear hA hB A B<;>(try simp at hj2)<;>(try with_reducible refine aK ?_)
   ·have hd:=(hEz _ (bK hj2)).1;have h1:=hG _ hd;have h2:=hH _ hd;have hmem:=bK hj2;generalize hgd:nth E j=d at*;apply aB;refine aR fun K' hK=> ?_
    simp[s1,s7,s8,s10,ge,hj2,hgd];refine aj h1 rfl (by first | rfl | (simp;done) | (simp;rfl) | (simp;exact⟨rfl,rfl⟩)) ?_;cases ht1:holdsV t n d with
    | false=>
     simp;apply hK;clear K' hK;refine aVk (by simp) ?_;apply ak
     refine ah ?_;refine aS fun K' hK=> ?_
     simp[s10,hw];apply hK;clear K' hK;refine ak (ay ?_ ?_)
     ·exact⟨by simp[s1],by simp[s2],by simp[s3],g0,hny,by simp[s7],by simp[s8],ge,j+1,by simp[hw],by omega,fun i hi=>by
       rcases Nat.lt_or_ge i j with h | h
       ·exact hok i h
       ·have:i=j:=(by omega);subst this;rw[hgd,ht1];rfl⟩
     ·simp[s10,hw];omega
    | true=>
     simp[s2,s7,s8,s10,ge,hj2,hgd];refine aj h2 rfl (by first | rfl | (simp;done) | (simp;rfl) | (simp;exact⟨rfl,rfl⟩)) ?_;cases ht2:holdsV u n d with
     | false=>
      simp;apply hK;clear K' hK;refine aU (by simp) ?_;apply aA;refine aR fun K' hK=> ?_
      simp;apply hK;clear K' hK;have hf:qm root L t u n=false:=by
       rw[hat,←Bool.not_eq_true,List.all_eq_true];intro hh;have:=hh d hmem;rw[ht1,ht2]at this;cases this
      rw[uT hn2 hf];apply aJ
      simp[au,aF,Post,bC,res1,bF,bg,aP,bf,aW,okT,okA,ok1,rowOf,Tryz.f87]
     | true=>
      simp;apply hK;clear K' hK;refine aVk (by simp) ?_;apply ak
      refine ah ?_;refine aS fun K' hK=> ?_
      simp[s10,hw];apply hK;clear K' hK;refine ak (ay ?_ ?_)
      ·exact⟨by simp[s1],by simp[s2],by simp[s3],g0,hny,by simp[s7],by simp[s8],ge,j+1,by simp[hw],by omega,fun i hi=>by
        rcases Nat.lt_or_ge i j with h | h
        ·exact hok i h
        ·have:i=j:=(by omega);subst this;rw[hgd,ht2];simp⟩
      ·simp[s10,hw];omega
   ·skip;apply bG
    refine aI (aH ?_);apply ak
    refine ah ?_;refine aS fun K' hK=> ?_
    simp[s7,hwn];apply hK;clear K' hK;refine ak (ay ?_ ?_)
    ·exact⟨by simp[s1],by simp[s2],by simp[s3],g0,by omega,n+1,by simp[hwn],by omega,fun i hi=>by
      rcases Nat.lt_or_ge i n with h | h
      ·exact hall i h
      ·have:i=n:=(by omega);subst this;rw[hat,List.all_eq_true];intro d hd;obtain⟨k,hk,rfl⟩:=List.mem_iff_getElem.1 hd;have:=hok k (by omega);rw[bZ hk]at this;exact this⟩
    ·simp[o7,s7,hwn];omega
 ·skip;apply bG
  refine aI (aH ?_);rw[Cm fun j hj=>hall j (by omega)];refine aR fun K' hK=> ?_
  simp;apply hK;clear K' hK;apply aG
  simp[au,aF,Post,bC,res1,bF,bg,aP,bf,aW,okT,okA,ok1,rowOf,Tryz.f87]
def sJ (t:List Pl) (b:Bs) (a:Int):List Nat:=if a<0 then[]else(upN t a.toNat).takeWhile fun p=>decide (chF t p b=none)
theorem rest_step {t:List Pl} (g:Good t) {b:Bs} {j:Nat} (hj:j<t.length):sJ t b j=if chF t j b=none then j::sJ t b (parN t j)else[]:=by
 unfold sJ;rw[if_neg (by omega),Int.toNat_natCast,iq g.dn hj,List.takeWhile_cons];by_cases h:chF t j b=none
 ·rw[if_pos h,if_pos (by simpa using h)];congr 1;split<;>rfl
 ·rw[if_neg h,if_neg (by simpa using h)]
theorem GV {t:List Pl} (g:Good t) {n:Nat} (hn:n<t.length) (d:Dep):Kv t n d=sJ t d.name (iO t n d):=by
 unfold Kv sJ;rw[if_neg (by omega),Int.toNat_natCast]
theorem wV (is:Nat→Bool) (p:Nat) (l:List Nat) (o:Int):nP is (p::l) o=nP is l (if is p=true then(p:Int)else o):=rfl
theorem Fq {t:List Pl} (g:Good t) {j:Nat} (hj:j<t.length):parN t j<j∧-1≤parN t j:=by
 have h1:=g.dn j hj;rcases Nat.eq_zero_or_pos j with rfl | h
 ·have:=gJ g.root;omega
 ·have:=g.par j h hj;omega
theorem vX {t:List Pl} {i:Int} {b:Bs} {v:Ver} (h:cZ t i b v=0):BA t i b v=gY t i b v:=if_pos h
theorem CG (root:Man) (L:List Man) (t:List Pl) (hsz:gy root L t) (g:Good t) (n:Nat) (hn:n<t.length) (d:Dep) (v:Ver) (hd:d.name.size≤1000000) (hv:v.pre.size≤1000000):CallsOK Tryz.prog 43 [.agg (qy root L),rowT Pl.cells t,iV n,.agg d.cells,.agg v.cells] (iV (ji root L t n d v)) []:=by
 obtain⟨hr,hro,hL,hLo,ht,htv⟩:=id hsz;have htl:=g.le;have c50:Tryz.prog.cellsOf 50=6:=(by kernel_rfl);unfold ji;rw[GV g hn];refine aO mixed Tryz.call43 Tryz.func43 rfl (by rw[Tryz.ntmps43];simp) ?_ rfl;rw[Tryz.ntmps43];refine aR fun K' hK=> ?_
 simp;apply hK;clear K' hK;refine aR fun K' hK=> ?_
 simp;apply hK;clear K' hK;apply aA;refine uX ?_
 refine eP (fun s G nx=>s 1=rowT Pl.cells t∧s 5=.ptr 0 0∧s 8=.ptr 1 0∧s 9=.ptr 2 0∧s 11=iV (iO t n d)∧nx=3∧G 0=some (.var 83 (qy root L))∧G 1=some (.var 35 d.cells)∧G 2=some (.var 23 v.cells)) ?_ ?_
 ·have hst:iO t n d=if d.kind=4∧0<n then(parN t n).toNat else n:=rfl;by_cases hk:d.kind=4
  ·by_cases hp:0<n
   ·have hp2:(0:Int)<n:=(by omega);have hpe:(nth t n).par=((parN t n).toNat:Int):=(by have:=g.par n hp hn;show parN t n=_;omega);rw[if_pos ⟨hk,hp⟩]at hst;refine aR fun K' hK=> ?_
    simp[hk,hp,hp2];apply hK;clear K' hK;refine aU (by simp) ?_;refine aR fun K' hK=> ?_
    simp[hn,hpe];apply hK;clear K' hK;with_reducible refine bP ?_
    rw[hst];exact⟨by simp,by simp,by simp,by simp,by simp,by simp,by simp,by simp,by simp⟩
   ·have hp2:¬(0:Int)<n:=(by omega);rw[if_neg (fun h=>hp h.2)]at hst;refine aR fun K' hK=> ?_
    simp[hk,hp,hp2];apply hK;clear K' hK;refine aVk (by simp) ?_;refine bP ?_
    rw[hst];exact⟨by simp,by simp,by simp,by simp,by simp,by simp,by simp,by simp,by simp⟩
  ·rw[if_neg (fun h=>hk h.1)]at hst;refine aR fun K' hK=> ?_
   simp[hk];apply hK;clear K' hK;refine aVk (by simp) ?_;refine bP ?_
   rw[hst];exact⟨by simp,by simp,by simp,by simp,by simp,by simp,by simp,by simp,by simp⟩
 have hs:=start_lt g hn d;generalize iO t n d=m at*;rintro s G nx ⟨s1,s5,s8,s9,s11,rfl,g0,g1,g2⟩;refine aR fun K' hK=> ?_
 simp;apply hK;clear K' hK;apply aB
 refine bI (fun s G nx=>s 1=rowT Pl.cells t∧s 5=.ptr 0 0∧s 8=.ptr 1 0∧s 9=.ptr 2 0∧G 0=some (.var 83 (qy root L))∧G 1=some (.var 35 d.cells)∧G 2=some (.var 23 v.cells)∧2<nx∧∃a o:Int,s 11=iV a∧s 12=iV o∧-1≤a∧a<t.length∧nP (fM root L t d v) (sJ t d.name m) (-1)=nP (fM root L t d v) (sJ t d.name a) o) (fun s _ _=>match s 11 with | .v (.int _ n)=>(n+1).toNat | _=>0) ?_ ?_
 ·exact⟨by simp[s1],by simp[s5],by simp[s8],by simp[s9],by simp[g0],by simp[g1],by simp[g2],by omega,m,-1,by simp[s11],by simp,by omega,by omega,rfl⟩
 clear s1 s5 s8 s9 s11 g0 g1 g2;rintro s G nx-⟨s1,s5,s8,s9,g0,g1,g2,hnx,a,o,s11,s12,ha1,ha2,hlast⟩;rcases Int.lt_or_le a 0 with hneg | hpos
 ·have:a= -1:=(by omega);subst this;have e:nP (fM root L t d v) (sJ t d.name (-1)) o=o:=rfl;rw[hlast,e];apply aA;refine aR fun K' hK=> ?_
  simp[s11];apply hK;clear K' hK;refine aY (by simp) ?_;apply bG
  refine aI (aH ?_);refine aR fun K' hK=> ?_
  simp[s12];apply hK;clear K' hK;apply aG
  simp[au,aF,Post,bC,res1,bF,bg,aP,bf,aW,okT,okA,ok1,rowOf,Tryz.f43]
 ·obtain⟨j,rfl⟩:∃j:Nat,a=j:=⟨a.toNat,by omega⟩;have hj:j<t.length:=(by omega);have hrs:=rest_step g (b:=d.name) hj;have hup:=Fq g hj;by_cases hc:chF t j d.name=none
  ·rw[if_pos hc]at hrs;rw[hrs,wV]at hlast;have hA:=Hu t ht j d.name v (by omega) (by omega);have hso:fM root L t d v j=(decide (cZ t j d.name v=0)&&mV root L t (gY t j d.name v)):=rfl;have n0:¬0=nx:=(by omega);have n1:¬1=nx:=(by omega);have n2:¬2=nx:=(by omega);have hpe:(nth t j).par=parN t j:=rfl;apply aA;refine aR fun K' hK=> ?_
   simp[s1,s8,s11,g1];refine aj (Hl t g j d.name) rfl (by simp) ?_;simp[hc];apply hK;clear K' hK;refine aXk (by simp) ?_;refine dJ (aB ?_);refine aR fun K' hK=> ?_
   simp[s1,s8,s9,s11,g1,g2];refine aN hA (by first | rfl | (simp;done) | (simp;rfl) | (simp;exact⟨rfl,rfl⟩)) ?_;simp[bH];apply hK;clear K' hK;apply aA;refine uX ?_
   refine eP (fun u H nz=>u 1=rowT Pl.cells t∧u 5=.ptr 0 0∧u 8=.ptr 1 0∧u 9=.ptr 2 0∧u 11=iV j∧u 12=iV (if fM root L t d v j=true then(j:Int)else o)∧H 0=some (.var 83 (qy root L))∧H 1=some (.var 35 d.cells)∧H 2=some (.var 23 v.cells)∧2<nz) ?_ ?_
   ·by_cases hc0:cZ t j d.name v=0
    ·have hgu:=oQ hc0;have hzu:=Hy (i:=j) hsz (by omega) hd hv;have hKp:=J5 root L t (gY t j d.name v) hsz hzu g hgu (by rw[eU];omega);have hso2:fM root L t d v j=mV root L t (gY t j d.name v):=(by rw[hso,hc0];simp);have hadr:=vX hc0;rw[hadr];generalize gY t j d.name v=w at*;have hT:∀X:Hp,X nx=some (.row 50 (flat Pl.cells w))→bM Tryz.prog X (.row nx w.length)=some (rowT Pl.cells w):=fun X h=>dU h c50 rfl;have hT0:=hT (G.upd nx (.row 50 (flat Pl.cells w))) (by simp);refine aR fun K' hK=> ?_
     simp[s1,s5,g0,n0,hc0];refine aj hKp rfl (by first | rfl | (simp[hT0];done) | (simp[hT0];rfl) | (simp[hT0];exact⟨rfl,rfl⟩)) ?_;rw[←hso2];cases hb:fM root L t d v j with
     | true=>
      simp;apply hK;clear K' hK;refine aU (by simp) ?_;refine aR fun K' hK=> ?_
      simp[s11];apply hK;clear K' hK;with_reducible refine bP ?_
      exact⟨by simp[s1],by simp[s5],by simp[s8],by simp[s9],by simp[s11],by simp[hb],by simp[n0,g0],by simp[n1,g1],by simp[n2,g2],by omega⟩
     | false=>
      simp;apply hK;clear K' hK;refine aVk (by simp) ?_;refine bP ?_
      exact⟨by simp[s1],by simp[s5],by simp[s8],by simp[s9],by simp[s11],by simp[s12,hb],by simp[n0,g0],by simp[n1,g1],by simp[n2,g2],by omega⟩
    ·have hb:fM root L t d v j=false:=(by rw[hso];simp[hc0]);rw[hb];refine aR fun K' hK=> ?_
     simp[hc0];apply hK;clear K' hK;refine aVk (by simp) ?_;refine bP ?_
     exact⟨by simp[s1],by simp[s5],by simp[s8],by simp[s9],by simp[s11],by simp[s12],by simp[n0,g0],by simp[n1,g1],by simp[n2,g2],by omega⟩
   have o11:=s11;clear s1 s5 s8 s9 s11 s12 g0 g1 g2;rintro u H nz ⟨s1,s5,s8,s9,s11,s12,g0,g1,g2,hnz⟩;refine aS fun K' hK=> ?_
   simp[s1,s11,hj,hpe];apply hK;clear K' hK;apply ak
   refine ah ?_;refine ak (ay ?_ ?_)
   ·exact⟨by simp[s1],by simp[s5],by simp[s8],by simp[s9],g0,g1,g2,hnz,parN t j,_,by simp,by simp[s12],hup.2,by omega,hlast⟩
   ·simp[o11];omega
  ·rw[if_neg hc]at hrs;rw[hrs]at hlast;have e:nP (fM root L t d v) [] o=o:=rfl;rw[hlast,e];apply aA;refine aR fun K' hK=> ?_
   simp[s1,s8,s11,g1];refine aj (Hl t g j d.name) rfl (by simp) ?_;simp[hc];apply hK;clear K' hK;refine aY (by simp) ?_;apply bG
   refine aI (aH ?_);refine aR fun K' hK=> ?_
   simp[s12];apply hK;clear K' hK;apply aG
   simp[au,aF,Post,bC,res1,bF,bg,aP,bf,aW,okT,okA,ok1,rowOf,Tryz.f43]
set_option maxRecDepth 100000
set_option maxHeartbeats 4000000
theorem zo (root:Man) (L:List Man) (t:List Pl) (h:gy root L t):CallsOK Tryz.prog 42 [.agg root.cells,rowT Man.cells L,rowT Pl.cells t] (.tup [.row 0 (iL root L t).length,iV (codeV root L t)]) [(3,flat iC (iL root L t))]:=by
 have hh:=h;obtain⟨hrz,hro,hLz,hLo,ht,hv⟩:=h;have htl:=ht.1;refine aO mixed Tryz.call42 Tryz.func42 rfl (by rw[Tryz.ntmps42];simp) ?_ rfl;rw[Tryz.ntmps42];refine aR fun K' hK=> ?_
 simp;apply hK;clear K' hK;refine aR fun K' hK=> ?_
 simp;refine aj (JW root L t hrz hLz ht) rfl (by first | rfl | (simp;done) | (simp;rfl) | (simp;exact⟨rfl,rfl⟩)) ?_;simp;apply hK;clear K' hK;by_cases hc:codeV root L t=0
 ·have g:Good t:=dM.1 (dA.1 hc).2.2;have hwo:iL root L t=((List.range t.length).filter fun n=> !gB root L t (n:Nat)).map fun(n:Nat)=>(n:Int):=(by rw[iL,if_pos hc,P7 g]);rw[hwo,hc];apply aA;refine aR fun K' hK=> ?_
  simp[hc];apply hK;clear K' hK;refine aYk (by simp) ?_;refine aR fun K' hK=> ?_
  simp;apply hK;clear K' hK;apply aA;refine aR fun K' hK=> ?_
  simp;apply hK;clear K' hK;apply aB
  refine bI (fun s G nx=>s 1=rowT Man.cells L∧s 2=rowT Pl.cells t∧s 3=.ptr 0 0∧G 0=some (.var 27 root.cells)∧∃(i q:Nat),s 10=iV i∧i≤t.length∧s 9=.row q (((List.range i).filter fun n=> !gB root L t (n:Nat)).map fun(n:Nat)=>(n:Int)).length∧1≤q∧G q=some (.row 3 (flat iC (((List.range i).filter fun n=> !gB root L t (n:Nat)).map fun(n:Nat)=>(n:Int))))) (fun s _ _=>match s 10 with | .v (.int _ n)=>t.length-n.toNat | _=>0) ?_ ?_
  ·exact⟨by simp,by simp,by simp,by simp,0,2,by simp,by omega,by simp,by omega,by simp⟩
  ·rintro s G nx hf ⟨s1,s2,s3,g0,i,q,s10,hi,s9,hq,hG⟩;have o10:=s10;have hw:IntKind.i64.wrap (↑i+1)=((i+1:Nat):Int):=dw (by omega);apply aA;refine aR fun K' hK=> ?_
   simp[s2,s10];apply hK;clear K' hK;refine aC fun A B hA hB=> ?_
   simp;refine⟨fun hi2=>hA ?_,fun hi2=>hB ?_⟩<;>clear hA hB A B<;>(try simp at hi2)<;>(try with_reducible refine aK ?_)
   ·have hst:(((List.range (i+1)).filter fun n=> !gB root L t (n:Nat)).map fun(n:Nat)=>(n:Int))=(((List.range i).filter fun n=> !gB root L t (n:Nat)).map fun(n:Nat)=>(n:Int))++if gB root L t (i:Nat)=true then[]else[(i:Int)]:=by
     rw[List.range_succ,List.filter_append,List.map_append];congr 1;cases hf2:gB root L t (i:Nat)<;>simp[hf2]
    have hal:(((List.range i).filter fun n=> !gB root L t (n:Nat)).map fun(n:Nat)=>(n:Int)).length≤i:=by
     rw[List.length_map];exact Nat.le_trans (List.length_filter_le _ _) (by simp)
    have hfi:=Ov root L t hh g i hi2;generalize (((List.range i).filter fun n=> !gB root L t (n:Nat)).map fun(n:Nat)=>(n:Int))=acc at*;generalize gB root L t (i:Nat)=F at*;have hqn:q<nx:=cO hf hG;have n0:¬0=nx:=(by have:=cO hf g0;omega);have n1:¬0=nx+1:=(by omega);have n2:¬q=nx:=(by omega);have n3:¬nx=q:=(by omega);have n4:¬0=q:=(by omega);have b1:acc.length+1≤9223372036854775807:=(by omega);have b2:(acc.length+1)*8≤140737488355328:=(by omega);apply aB;refine aR fun K' hK=> ?_
    simp[s1,s2,s3,s10,g0];refine aj hfi rfl (by first | rfl | (simp;done) | (simp;rfl) | (simp;exact⟨rfl,rfl⟩)) ?_;simp;apply hK;clear K' hK;cases F with
    | true=>
     refine aVk (by simp) ?_;apply ak
     refine ah ?_;refine aS fun K' hK=> ?_
     simp[s10,hw];apply hK;clear K' hK;refine ak (ay ?_ ?_)
     ·exact⟨by simp[s1],by simp[s2],by simp[s3],by simp[g0],i+1,q,by simp[hw],by omega,by rw[hst];simp[s9],hq,by rw[hst];simpa using hG⟩
     ·simp[o10,s10,hw];omega
    | false=>
     refine aU (by simp) ?_;refine aR fun K' hK=> ?_
     simp[s9,s10,hG,n2,n3,b1,b2,bQ,dB];apply hK;clear K' hK;apply ak
     refine ah ?_;refine aS fun K' hK=> ?_
     simp[s10,hw];apply hK;clear K' hK;refine ak (ay ?_ ?_)
     ·exact⟨by simp[s1],by simp[s2],by simp[s3],by simp[n0,n1,n4,g0],i+1,nx+1,by simp[hw],by omega,by rw[hst];simp,by omega,by rw[hst];simp[←dZ];rfl⟩
     ·simp[o10,s10,hw];omega
   ·skip;apply bG
    refine aI (aH ?_);have hie:i=t.length:=(by omega);subst hie;refine aR fun K' hK=> ?_
    simp[s9];apply hK;clear K' hK;apply aG
    simp[au,aF,Post,bC,res1,bF,bg,aP,bf,aW,okT,okA,ok1,rowOf,Tryz.f42,hG]
 ·have hwo:iL root L t=[]:=(by rw[iL,if_neg hc]);rw[hwo];apply aA;refine aR fun K' hK=> ?_
  simp[hc];apply hK;clear K' hK;refine aX (by simp[hc]) ?_;apply aA;refine aR fun K' hK=> ?_
  simp;apply hK;clear K' hK;apply aJ
  simp[au,aF,Post,bC,res1,bF,bg,aP,bf,aW,okT,okA,ok1,rowOf,Tryz.f42]
set_option maxRecDepth 100000
set_option maxHeartbeats 4000000
def kJ (P:Prop) (G:Hp) (nx:Nat) (x:AV) (u:List Pl):Prop:=x=rowT Pl.cells u∨∃q,x=.row q u.length∧q<nx∧(G q=some (.frz 50 (flat Pl.cells u))∨(P∧G q=some (.row 50 (flat Pl.cells u))))
theorem kJ.keep {P Q:Prop} {G G':Hp} {nx ny:Nat} {x:AV} {u:List Pl} (h:kJ P G nx x u) (hn:nx≤ny) (hP:P→Q) (hG:∀k,k<nx→G' k=G k):kJ Q G' ny x u:=by
 rcases h with h | ⟨q,h1,h2,h3⟩
 ·exact .inl h
 ·refine .inr ⟨q,h1,by omega,?_⟩;rw[hG q h2];rcases h3 with h | ⟨hp,h⟩
  ·exact .inl h
  ·exact .inr ⟨hP hp,h⟩
theorem c50:Tryz.prog.cellsOf 50=6:=by kernel_rfl
theorem kJ.tree {P:Prop} {G:Hp} {nx:Nat} {x:AV} {u:List Pl} (h:kJ P G nx x u):bM Tryz.prog G x=some (rowT Pl.cells u):=by
 rcases h with rfl | ⟨q,rfl,_,h | ⟨_,h⟩⟩
 ·rfl
 ·exact gW h c50 rfl
 ·exact dU h c50 rfl
theorem kJ.frz {P:Prop} {G:Hp} {nx:Nat} {x:AV} {u:List Pl} (h:kJ P G nx x u) (hu:u≠[]):kJ False (bU G x) nx x u:=by
 rcases h with rfl | ⟨q,rfl,hq,h | ⟨_,h⟩⟩
 ·exact .inl rfl
 ·exact .inr ⟨q,rfl,hq,.inl (by rw[MS h];exact h)⟩
 ·exact .inr ⟨q,rfl,hq,.inl (by rw[MO h hu];simp)⟩
theorem kJ.len {P:Prop} {G:Hp} {nx:Nat} {x:AV} {u:List Pl} (h:kJ P G nx x u):zh Tryz.prog G 29 x=some (iV u.length):=by
 rcases h with rfl | ⟨q,rfl,hq,h | ⟨_,h⟩⟩
 ·simp
 ·simp[h]
 ·simp[h]
theorem kJ.rY {P:Prop} {G:Hp} {nx:Nat} {x:AV} {u:List Pl} (h:kJ P G nx x u) {k:Nat} {t:TypeId} {cs:List AV} (hk:G k=some (.var t cs)):∀m,x≠ .row k m:=by
 rintro m rfl;rcases h with h | ⟨q,h1,_,h | ⟨_,h⟩⟩
 ·cases h
 ·injection h1 with h1;subst h1;rw[hk]at h;cases h
 ·injection h1 with h1;subst h1;rw[hk]at h;cases h
theorem kJ.QZ {P:Prop} {G:Hp} {nx:Nat} {x:AV} {u:List Pl} (h:kJ P G nx x u) {k:Nat} {cs:List AV} (hk:G k=some (.row 35 cs)):∀m,x≠ .row k m:=by
 rintro m rfl;rcases h with h | ⟨q,h1,_,h | ⟨_,h⟩⟩
 ·cases h
 ·injection h1 with h1;subst h1;rw[hk]at h;cases h
 ·injection h1 with h1;subst h1;rw[hk]at h;injection h with h;injection h with h;cases h
theorem Az {G:Hp} {x:AV} {k:Nat} (h:∀m,x≠ .row k m):bU G x k=G k:=by
 cases x with
 | row id n=>exact dP fun e=>h n (by rw[e])
 | _=>rfl
section
variable {d:Bool} {f:FuncId} {cls:Nat} {K:AV→Hp→Nat→Prop} {r:AV} {J:Js} {G:Hp} {nx:Nat} {x:AV} {u:List Pl} {P:Prop} {root:Man} {L:List Man}
theorem zB {n:Nat} (hk:CallsOK Tryz.prog f [.agg root.cells,rowT Man.cells L,rowT Pl.cells u,iV n] r J) (hx:kJ P G nx x u) (hu:u≠[]) (h:∀G',(∀k,(∀m,x≠ .row k m)→G' k=G k)→kJ False G' nx x u→K (shiftT nx r) (addJ G' nx J) (nx+J.length)):pV Tryz.prog d f [.agg root.cells,rowT Man.cells L,x,iV n] cls K G nx:=by
 have hT:=hx.tree;have hF:=hx.frz hu;have h2:=h (bU G x) (fun k hk=>Az hk) hF;have e:argsOf Tryz.prog G [.agg root.cells,rowT Man.cells L,x,iV n]=some ([.agg root.cells,rowT Man.cells L,rowT Pl.cells u,iV n],bU G x):=by
  rcases hx with rfl | ⟨q,rfl,_,_⟩
  ·rfl
  ·have e0:cu Tryz.prog G root.cells=some (root.cells,G):=rfl;have e1:cu Tryz.prog G (qy root L)=some (qy root L,G):=rfl;have t0:bM Tryz.prog G (.sl L.length (flat Man.cells L))=some (.sl L.length (flat Man.cells L)):=rfl;have f0:bU G (.sl L.length (flat Man.cells L))=G:=rfl;have r0:rowT Man.cells L=.sl L.length (flat Man.cells L):=rfl;simp only[r0,argsOf,e0,e1,t0,f0,hT];rfl
 exact aN hk (by rw[e];rfl) (by rw[e];exact h2)
theorem JL {n:Nat} {e:Dep} (hk:CallsOK Tryz.prog f [.agg (qy root L),rowT Pl.cells u,iV n,.agg e.cells] r J) (hx:kJ P G nx x u) (hu:u≠[]) (h:∀G',(∀k,(∀m,x≠ .row k m)→G' k=G k)→kJ False G' nx x u→K (shiftT nx r) (addJ G' nx J) (nx+J.length)):pV Tryz.prog d f [.agg (qy root L),x,iV n,.agg e.cells] cls K G nx:=by
 have hT:=hx.tree;have hF:=hx.frz hu;have h2:=h (bU G x) (fun k hk=>Az hk) hF;have e2:argsOf Tryz.prog G [.agg (qy root L),x,iV n,.agg e.cells]=some ([.agg (qy root L),rowT Pl.cells u,iV n,.agg e.cells],bU G x):=by
  rcases hx with rfl | ⟨q,rfl,_,_⟩
  ·rfl
  ·have e0:cu Tryz.prog G root.cells=some (root.cells,G):=rfl;have e1:cu Tryz.prog G (qy root L)=some (qy root L,G):=rfl;have t0:bM Tryz.prog G (.sl L.length (flat Man.cells L))=some (.sl L.length (flat Man.cells L)):=rfl;have f0:bU G (.sl L.length (flat Man.cells L))=G:=rfl;have r0:rowT Man.cells L=.sl L.length (flat Man.cells L):=rfl;simp only[r0,argsOf,e0,e1,t0,f0,hT];rfl
 exact aN hk (by rw[e2];rfl) (by rw[e2];exact h2)
end
def ru (root:Man) (L:List Man) (n:Nat) (d:Dep) (t:List Pl):AV×Js:=
 if(dY root L n d t).2=0 then(if(dY root L n d t).1.length=t.length then(.tup [rowT Pl.cells t,iV 0],[])else(.tup [.row 0 (dY root L n d t).1.length,iV 0],[(50,flat Pl.cells (dY root L n d t).1)]))
 else(.tup [.row 0 0,iV (dY root L n d t).2],[(50,[])])
theorem Oo (root:Man) (L:List Man) (t:List Pl) (hsz:gy root L t) (h12:L.length≤12) (hc:codeV root L t=0) (n:Nat) (hn:n<t.length) (d:Dep) (hd:d.name.size≤1000000) (hdr:Rg.sz d.range):
  CallsOK Tryz.prog 48 [.agg (qy root L),rowT Pl.cells t,iV n,.agg d.cells] (ru root L n d t).1 (ru root L n d t).2:=by
 obtain⟨hr,hro,hL,hLo,ht,htv⟩:=id hsz;have g:Good t:=dM.1 (dA.1 hc).2.2;have htl:=g.le;have hG:=qE t g ht htv n hn d hdr;have hLd:=Dy t g ht n hn d;have hV:=MQ L hL.1 d.name;obtain⟨hvz,hvl⟩:=Ar hL h12 d.name;have hvu:=Gt (dA.1 hc).2.1 d.name;have hB:=MH (fP L d.name) hvz hvu d.range hdr;have hVs:∀v,nG (fP L d.name) d.range=some v→v.pre.size≤1000000:=fun v h=>hvz.2 v (ug h).1;have hS:=fun v (h:v.pre.size≤1000000)=>CG root L t hsz g n hn d v hd h;have hE:dY root L n d t=(if holdsV t n d=true∧0≤toN t n d then(t,0)else match nG (fP L d.name) d.range with
  | none=>if holdsV t n d=true then(t,0)else(t,180)
  | some v=>if ji root L t n d v<0 then(if holdsV t n d=true then(t,0)else(t,180))else if 40≤t.length then(t,2)else(gY t (ji root L t n d v) d.name v,0):List Pl×Int):=rfl
 have hsp:=fun v=>kZ (root:=root) (L:=L) (t:=t) (n:=n) (d:=d) (v:=v);have hO1:dY root L n d t=(t,0)→ru root L n d t=(.tup [rowT Pl.cells t,iV 0],[]):=fun e=>(by unfold ru;rw[e,if_pos rfl,if_pos rfl]);have hO2:∀c,dY root L n d t=(t,c)→c≠0→ru root L n d t=(.tup [.row 0 0,iV c],[(50,[])]):=fun c e h=>(by unfold ru;rw[e,if_neg h]);have hO3:∀X,dY root L n d t=(X,0)→t.length<X.length→ru root L n d t=(.tup [.row 0 X.length,iV 0],[(50,flat Pl.cells X)]):=fun X e h=>(by unfold ru;rw[e,if_pos rfl,if_neg (by simp only;omega)]);refine aO mixed Tryz.call48 Tryz.func48 rfl (by rw[Tryz.ntmps48];simp) ?_ ?_
 ·rw[Tryz.ntmps48];generalize ru root L n d t=eo at*;generalize dY root L n d t=es at*;generalize hvs:fP L d.name=vs at*;generalize hbv:nG vs d.range=bo at*;by_cases h1:holdsV t n d=true∧0≤toN t n d
  ·rw[if_pos h1]at hE;rw[hO1 hE];refine aR fun K' hK=> ?_
   simp;apply hK;clear K' hK;refine aR fun K' hK=> ?_
   simp;refine aj hG rfl (by first | rfl | (simp;done) | (simp;rfl) | (simp;exact⟨rfl,rfl⟩)) ?_;simp[h1.1];apply hK;clear K' hK;apply aA;refine aR fun K' hK=> ?_
   simp;refine aj hLd rfl (by first | rfl | (simp;done) | (simp;rfl) | (simp;exact⟨rfl,rfl⟩)) ?_;simp[h1.2];apply hK;clear K' hK;refine aX (by simp) ?_;apply aA;refine aR fun K' hK=> ?_
   simp;apply hK;clear K' hK;apply aJ
   simp[au,aF,Post,bC,res1,bF,bg,aP,bf,aW,okT,okA,ok1,rowOf,Tryz.f48];all_goals first | exact⟨rfl,rfl⟩ | rfl
  ·rw[if_neg h1]at hE;refine aR fun K' hK=> ?_
   simp;apply hK;clear K' hK;refine aR fun K' hK=> ?_
   simp;refine aj hG rfl (by first | rfl | (simp;done) | (simp;rfl) | (simp;exact⟨rfl,rfl⟩)) ?_;simp;apply hK;clear K' hK;apply aA;refine uX ?_
   refine eP (fun s G nx=>s 1=rowT Pl.cells t∧s 2=iV n∧s 4=.ptr 0 0∧s 7=.ptr 1 0∧s 10=bV (holdsV t n d)∧G 0=some (.var 83 (qy root L))∧G 1=some (.var 35 d.cells)∧1<nx) ?_ ?_
   ·cases hb:holdsV t n d with
    | true=>
     have hz:¬0≤toN t n d:=fun h=>h1 ⟨hb,h⟩;refine aR fun K' hK=> ?_
     simp[hb];refine aj hLd rfl (by first | rfl | (simp;done) | (simp;rfl) | (simp;exact⟨rfl,rfl⟩)) ?_;simp[hz];apply hK;clear K' hK;refine aVk (by simp) ?_;refine bP ?_
     exact⟨by simp,by simp,by simp,by simp,by simp,by simp,by simp,by omega⟩
    | false=>
     refine aR fun K' hK=> ?_
     simp[hb];apply hK;clear K' hK;refine aVk (by simp) ?_;refine bP ?_
     exact⟨by simp,by simp,by simp,by simp,by simp,by simp,by simp,by omega⟩
   generalize holdsV t n d=hb at*;rintro s G nx ⟨s1,s2,s4,s7,s10,g0,g1,hnx⟩;refine aR fun K' hK=> ?_
   simp;apply hK;clear K' hK;have n0:¬0=nx:=(by omega);have n1:¬1=nx:=(by omega);have hT0:bM Tryz.prog (G.upd nx (.row 23 (flat Ver.cells vs))) (.row nx vs.length)=some (rowT Ver.cells vs):=dU (by simp) jR rfl;refine eY none [] (by decide+kernel) (by decide+kernel) (fun p' hp'=>by cases hp') fun K' hK=> ?_;simp[s4,s7,g0,g1];refine aN hV (by first | rfl | (simp;done) | (simp;rfl) | (simp;exact⟨rfl,rfl⟩)) ?_;simp[bH,n0,n1,s4,s7,g0,g1];refine aN hB (by first | rfl | (simp[hT0];done) | (simp[hT0];rfl) | (simp[hT0];exact⟨rfl,rfl⟩)) ?_;simp[dG,hT0];cases bo with
   | none=>
    have hE:es=if hb=true then(t,0)else(t,180):=hE;simp[oW];apply hK;clear K' hK;apply aA;refine aR fun K' hK=> ?_
    simp;apply hK;clear K' hK;refine aYk (by simp) ?_
    cases hb with
    | true=>
     rw[if_pos rfl]at hE;rw[hO1 hE];apply aA;refine aR fun K' hK=> ?_
     simp[s10];apply hK;clear K' hK;refine aX (by simp) ?_;apply aA;refine aR fun K' hK=> ?_
     simp[s1];apply hK;clear K' hK;apply aJ
     simp[au,aF,Post,bC,res1,bF,bg,aP,bf,aW,okT,okA,ok1,rowOf,Tryz.f48];all_goals first | exact⟨rfl,rfl⟩ | rfl
    | false=>
     rw[if_neg (by simp)]at hE;rw[hO2 180 hE (by omega)];apply aA;refine aR fun K' hK=> ?_
     simp[s10];apply hK;clear K' hK;refine aYk (by simp) ?_;apply aA;refine aR fun K' hK=> ?_
     simp;apply hK;clear K' hK;refine aX (by simp) ?_;apply aA;refine aR fun K' hK=> ?_
     simp;apply hK;clear K' hK;apply aJ
     simp[au,aF,Post,bC,res1,bF,bg,aP,bf,aW,okT,okA,ok1,rowOf,Tryz.f48];all_goals first | exact⟨rfl,rfl⟩ | rfl
   | some v=>
    have hE:es=if ji root L t n d v<0 then(if hb=true then(t,0)else(t,180))else if 40≤t.length then(t,2)else(gY t (ji root L t n d v) d.name v,0):=hE;have hvp:=hVs v rfl;have hSv:=hS v hvp;have hA:=fun i:Int=>Hu t ht i d.name v (by omega) (by omega);have hspv:=hsp v;have hlift:∀p:Nat,fM root L t d v p=true→cZ t p d.name v=0:=fun p h=>(mD h).1;generalize ji root L t n d v=a at*;simp[oW];apply hK;clear K' hK;apply aA;refine aR fun K' hK=> ?_
    simp;apply hK;clear K' hK;refine aX (by simp) ?_
    have hsh:List.map (uH (nx+1)) v.cells=v.cells:=rfl;have nxz:¬nx=0:=(by omega);have n0':¬0=nx+1:=(by omega);have n1':¬1=nx+1:=(by omega);refine aR fun K' hK=> ?_
    simp[s1,s2,s4,s7,g0,g1,n0,n1,n0',n1',hsh,nxz];refine aj hSv rfl (by first | rfl | (simp;done) | (simp;rfl) | (simp;exact⟨rfl,rfl⟩)) ?_;simp;apply hK;clear K' hK;by_cases ha:a<0
    ·rw[if_pos ha]at hE;cases hb with
     | true=>
      rw[if_pos rfl]at hE;rw[hO1 hE];apply aA;refine aR fun K' hK=> ?_
      simp[s10,ha];apply hK;clear K' hK;refine aX (by simp) ?_;apply aA;refine aR fun K' hK=> ?_
      simp[s1];apply hK;clear K' hK;apply aJ
      simp[au,aF,Post,bC,res1,bF,bg,aP,bf,aW,okT,okA,ok1,rowOf,Tryz.f48];all_goals first | exact⟨rfl,rfl⟩ | rfl
     | false=>
      rw[if_neg (by simp)]at hE;rw[hO2 180 hE (by omega)];apply aA;refine aR fun K' hK=> ?_
      simp[s10,ha];apply hK;clear K' hK;refine aYk (by simp) ?_;apply aA;refine aR fun K' hK=> ?_
      simp[ha];apply hK;clear K' hK;refine aX (by simp) ?_;apply aA;refine aR fun K' hK=> ?_
      simp;apply hK;clear K' hK;apply aJ
      simp[au,aF,Post,bC,res1,bF,bg,aP,bf,aW,okT,okA,ok1,rowOf,Tryz.f48];all_goals first | exact⟨rfl,rfl⟩ | rfl
    ·rw[if_neg ha]at hE;apply aA;refine aR fun K' hK=> ?_
     simp[s10,ha];apply hK;clear K' hK;refine aYk (by simp) ?_;apply aA;refine aR fun K' hK=> ?_
     simp[ha];apply hK;clear K' hK;refine aYk (by simp) ?_
     by_cases h40:40≤t.length
     ·rw[if_pos h40]at hE;rw[hO2 2 hE (by omega)];have h40':(40:Int)≤t.length:=(by omega);apply aA;refine aR fun K' hK=> ?_
      simp[s1,h40,h40'];apply hK;clear K' hK;refine aX (by simp) ?_;apply aA;refine aR fun K' hK=> ?_
      simp;apply hK;clear K' hK;apply aJ
      simp[au,aF,Post,bC,res1,bF,bg,aP,bf,aW,okT,okA,ok1,rowOf,Tryz.f48];all_goals first | exact⟨rfl,rfl⟩ | rfl
     ·rw[if_neg h40]at hE;rw[hO3 _ hE (by rw[eU];omega)];have h40':¬(40:Int)≤t.length:=(by omega);obtain⟨p,hpw,hpo,rfl⟩:=hspv.resolve_left (by omega);have hAc:=hlift p hpo;have hAp:=hA p;rw[vX hAc,hAc]at hAp;apply aA;refine aR fun K' hK=> ?_
      simp[s1,h40,h40'];apply hK;clear K' hK;refine aYk (by simp) ?_;refine aR fun K' hK=> ?_
      simp[s1,s7,g0,g1,n0,n1,n0',n1',hsh,nxz];refine aN hAp (by first | rfl | (simp;done) | (simp;rfl) | (simp;exact⟨rfl,rfl⟩)) ?_;simp[bH];apply hK;clear K' hK;refine aR fun K' hK=> ?_
      simp;apply hK;clear K' hK;apply aG
      simp[au,aF,Post,bC,res1,bF,bg,aP,bf,aW,okT,okA,ok1,rowOf,Tryz.f48];all_goals first | exact⟨rfl,rfl⟩ | rfl
 ·unfold ru;split
  ·split<;>rfl
  ·rfl
theorem ER {root:Man} {L:List Man} {t:List Pl} {n:Nat} {d:Dep} (hsz:gy root L t) (hl:t.length≤200) (hd:d.name.size≤1000000) (h:(dY root L n d t).2=0):gy root L (dY root L n d t).1:=by
 rcases qW h with⟨h1,_⟩ | ⟨p,v,_,_,h3,_,_,h5⟩
 ·rw[h1];exact hsz
 ·rw[h5];obtain⟨m,hm,_,rfl⟩:=IV h3;exact Hy hsz (by omega) hd (hsz.2.2.1.2 m hm).2.1
theorem Gw (root:Man) (L:List Man) (n:Nat) (d:Dep) (t:List Pl):
  ((dY root L n d t).2=0∧(dY root L n d t).1=t∧ru root L n d t=(.tup [rowT Pl.cells t,iV 0],[]))∨
  ((dY root L n d t).2=0∧t.length<(dY root L n d t).1.length∧ru root L n d t=(.tup [.row 0 (dY root L n d t).1.length,iV 0],[(50,flat Pl.cells (dY root L n d t).1)]))∨
  (¬(dY root L n d t).2=0∧ru root L n d t=(.tup [.row 0 0,iV (dY root L n d t).2],[(50,[])])):=by
 unfold ru;by_cases h:(dY root L n d t).2=0
 ·rw[if_pos h];rcases qW h with⟨h1,_⟩ | ⟨p,v,_,_,_,_,_,h5⟩
  ·exact .inl ⟨h,h1,by rw[if_pos (by rw[h1])]⟩
  ·have:t.length<(dY root L n d t).1.length:=(by rw[h5,eU];omega);exact .inr (.inl ⟨h,this,by rw[if_neg (by omega)]⟩)
 ·exact .inr (.inr ⟨h,by rw[if_neg h]⟩)
theorem drop_cons {α:Type} [Inhabited α] {l:List α} {j:Nat} (h:j<l.length):l.drop j=nth l j::l.drop (j+1):=by
 rw[List.drop_eq_getElem_cons h,←bZ h]
def ig (root:Man) (L:List Man) (t:List Pl):AV×Js:=if(growS root L t).2=0 then(.tup [rowT Pl.cells (growS root L t).1,iV 0],[])else(.tup [.row 0 0,iV (growS root L t).2],[(50,[])])
theorem Ld (root:Man) (L:List Man) (t:List Pl) (hsz:gy root L t) (h12:dO L=0→L.length≤12) (htl:t.length≤1000):CallsOK Tryz.prog 20 [.agg root.cells,rowT Man.cells L,rowT Pl.cells t] (ig root L t).1 (ig root L t).2:=by
 obtain⟨hr,hro,hL,hLo,ht,htv⟩:=id hsz;have hW:=zo root L t hsz;refine aO mixed Tryz.call20 Tryz.func20 rfl (by rw[Tryz.ntmps20];simp) ?_ ?_
 ·rw[Tryz.ntmps20];have hG1:∀u:List Pl,growS root L t=(u,0)→ig root L t=(.tup [rowT Pl.cells u,iV 0],[]):=fun u e=>(by unfold ig;rw[e,if_pos rfl]);have hG2:∀(u:List Pl) c,growS root L t=(u,c)→c≠0→ig root L t=(.tup [.row 0 0,iV c],[(50,[])]):=fun u c e h=>(by unfold ig;rw[e,if_neg h]);have hGe:growS root L t=if codeV root L t=0 then jg root L 201 0 t else([],codeV root L t):=rfl;generalize ig root L t=go at*;generalize growS root L t=gs at*;refine aR fun K' hK=> ?_
  simp;apply hK;clear K' hK;refine aR fun K' hK=> ?_
  simp;refine aN hW (by first | rfl | (simp;done) | (simp;rfl) | (simp;exact⟨rfl,rfl⟩)) ?_;simp[bH];apply hK;clear K' hK;by_cases hc:codeV root L t=0
  ·have h12:=h12 (dA.1 hc).2.1;rw[if_pos hc]at hGe;have g:Good t:=dM.1 (dA.1 hc).2.2;have htne:t≠[]:=List.ne_nil_of_length_pos g.pos;apply aA;refine aR fun K' hK=> ?_
   simp[hc];apply hK;clear K' hK;refine aYk (by simp) ?_;refine aR fun K' hK=> ?_
   simp;apply hK;clear K' hK;refine aR fun K' hK=> ?_
   simp;refine aN (zV t (by omega)) (by first | rfl | (simp;done) | (simp;rfl) | (simp;exact⟨rfl,rfl⟩)) ?_;simp[bH];apply hK;clear K' hK;apply aA;refine aR fun K' hK=> ?_
   simp;apply hK;clear K' hK;apply aB
   refine bI (fun s G nx=>s 1=rowT Man.cells L∧s 3=.ptr 0 0∧G 0=some (.var 27 root.cells)∧0<nx∧(∃p,s 10=.ptr p 0∧G p=some (.var 83 (qy root L))∧p<nx)∧∃(n k:Nat) (x:AV) (u:List Pl),s 12=iV n∧n+k=201∧n≤200∧s 11=x∧kJ (n<u.length) G nx x u∧gs=jg root L k n u∧codeV root L u=0∧gy root L u) (fun s _ _=>match s 12 with | .v (.int _ n)=>201-n.toNat | _=>0) ?_ ?_
   ·exact⟨by simp,by simp,by simp,by omega,⟨_,by simp;rfl,by simp;rfl,by omega⟩,0,201,_,t,by simp,by omega,by omega,rfl,.inr ⟨_,by simp;rfl,by omega,.inr ⟨g.pos,by simp⟩⟩,hGe,hc,hsz⟩
   clear hGe hc g htne hW;rintro s G nx-⟨s1,s3,g0,hnx,⟨p,s10,gp,hp⟩,n,k,x,u,s12,hnk,hn200,s11,hx,hgs,hc,hsz⟩;have g:Good u:=dM.1 (dA.1 hc).2.2;have hul:=g.le;have hune:u≠[]:=List.ne_nil_of_length_pos g.pos;obtain⟨k,rfl⟩:∃k',k=k'+1:=⟨k-1,by omega⟩;unfold jg at hgs;have hlen:=hx.len;apply aA;refine aR fun K' hK=> ?_
   simp[s11,s12,hlen];apply hK;clear K' hK;refine aC fun A B hA hB=> ?_
   simp;refine⟨fun hn2=>hA ?_,fun hn2=>hB ?_⟩<;>clear hA hB A B<;>(try simp at hn2)<;>(try with_reducible refine aK ?_)
   ·rw[if_pos hn2]at hgs;have hE:=qh root hr hro L hL hLo u g n hn2;have hEz:=jZ (t:=u) (n:=n) hr hL;have hEl:=rH (t:=u) (n:=n) hr hL;generalize hsm:(manVal root L u n).isSome=sm at*;generalize hEe:edgesV root L u n=E at*;have xp:=hx.rY gp;have x0:=hx.rY g0;have n0:¬0=nx:=(by omega);have np:¬p=nx:=(by omega);apply aB;refine aR fun K' hK=> ?_
    simp[s1,s3,s11,s12,g0];refine zB hE hx hune ?_;rintro G' hfz hx2;have g0':G' 0=some (.var 27 root.cells):=(by rw[hfz 0 x0];exact g0);have gp':G' p=some (.var 83 (qy root L)):=(by rw[hfz p xp];exact gp);simp[bH];apply hK;clear K' hK;cases sm with
    | false=>
     rw[if_neg (by simp)]at hgs;rw[hG2 _ _ hgs (by omega)];apply aA;refine aR fun K' hK=> ?_
     simp;apply hK;clear K' hK;refine aX (by simp) ?_;apply aA;refine aR fun K' hK=> ?_
     simp;apply hK;clear K' hK;apply aJ
     simp[au,aF,Post,bC,res1,bF,bg,aP,bf,aW,okT,okA,ok1,rowOf,Tryz.f20]
    | true=>
     rw[if_pos rfl]at hgs;apply aA;refine aR fun K' hK=> ?_
     simp;apply hK;clear K' hK;refine aYk (by simp) ?_;refine aR fun K' hK=> ?_
     simp;apply hK;clear K' hK;refine dJ (aB ?_)
     refine bI (fun s G nz=>s 1=rowT Man.cells L∧s 3=.ptr 0 0∧G 0=some (.var 27 root.cells)∧s 10=.ptr p 0∧G p=some (.var 83 (qy root L))∧s 12=iV n∧s 13=.row nx E.length∧G nx=some (.row 35 (flat Dep.cells E))∧nx<nz∧∃(j:Nat) (x:AV) (u':List Pl),s 15=iV j∧j≤E.length∧s 11=x∧kJ (n+1<u'.length) G nz x u'∧eu root L n E u=eu root L n (E.drop j) u'∧codeV root L u'=0∧gy root L u'∧n<u'.length) (fun s _ _=>match s 15 with | .v (.int _ n)=>E.length-n.toNat | _=>0) ?_ ?_
     ·exact⟨by simp[s1],by simp[s3],by simp[n0,g0'],by simp[s10],by simp[np,gp'],by simp[s12],by simp,by simp,by omega,0,x,u,by simp,by omega,by simp[s11],hx2.keep (by omega) (fun h=>h.elim) (fun k hk=>by rw[Hp.upd_ne _ _ (by omega)]),by simp,hc,hsz,hn2⟩
     have o12:=s12;clear s1 s3 s10 s11 s12 g0 gp hx hx2 hlen hfz g0' gp' xp x0 hE hc hsz g hul hune hn2;rintro s G nz-⟨s1,s3,g0,s10,gp,s12,s13,gE,hnz,j,x,u',s15,hj,s11,hx,hes,hc,hsz,hnu⟩;have hw:IntKind.i64.wrap (↑j+1)=((j+1:Nat):Int):=dw (by omega);have g:Good u':=dM.1 (dA.1 hc).2.2;have hul:=g.le;have hune:u'≠[]:=List.ne_nil_of_length_pos g.pos;apply aA;refine aR fun K' hK=> ?_
     simp[s13,s15,gE];apply hK;clear K' hK;refine aC fun A B hA hB=> ?_
     simp;refine⟨fun hj2=>hA ?_,fun hj2=>hB ?_⟩<;>clear hA hB A B<;>(try simp at hj2)<;>(try with_reducible refine aK ?_)
     ·obtain⟨hdr,hdn⟩:=hEz _ (bK hj2);have hED:=Oo root L u' hsz h12 hc n hnu (nth E j) hdn hdr;have hdc:=drop_cons hj2;have hstep:eu root L n (nth E j::E.drop (j+1)) u'=if(dY root L n (nth E j) u').2=0 then eu root L n (E.drop (j+1)) (dY root L n (nth E j) u').1 else([],(dY root L n (nth E j) u').2):=rfl;rw[hdc,hstep]at hes;clear hstep;have hcs:=Gw root L n (nth E j) u';have hxt:=fun h=>rV (root:=root) (L:=L) (t:=u') (n:=n) (d:=nth E j) hc hnu h;have hsx:=fun h=>ER (root:=root) (L:=L) (t:=u') (n:=n) (d:=nth E j) hsz hul hdn h;generalize hgd:nth E j=d at*;have xp:=hx.rY gp;have x0:=hx.rY g0;have xE:=hx.QZ gE;have n0:¬0=nz:=(by omega);have np:¬p=nz:=(by omega);have nE:¬nx=nz:=(by omega);apply aB;refine aQ fun K' hK=> ?_
      simp[s10,s11,s12,s13,s15,gp,gE,hj2,hgd];refine JL hED hx hune ?_;rintro G' hfz hx2;have g0':G' 0=some (.var 27 root.cells):=(by rw[hfz 0 x0];exact g0);have gp':G' p=some (.var 83 (qy root L)):=(by rw[hfz p xp];exact gp);have gE':G' nx=some (.row 35 (flat Dep.cells E)):=(by rw[hfz nx xE];exact gE);rcases hcs with⟨c0,c1,c2⟩ | ⟨c0,c1,c2⟩ | ⟨c0,c2⟩
      ·rw[if_pos c0,c1]at hes;rw[c2];simp[dG];apply hK;clear K' hK;apply aA;refine aR fun K' hK=> ?_
       simp;apply hK;clear K' hK;refine aYk (by simp) ?_;refine aS fun K' hK=> ?_
       simp;apply hK;clear K' hK;apply ak
       refine ah ?_;refine aS fun K' hK=> ?_
       simp[s15,hw];apply hK;clear K' hK;refine ak (ay ?_ ?_)
       ·exact⟨by simp[s1],by simp[s3],g0',by simp[s10],gp',by simp[s12],by simp[s13],gE',hnz,j+1,rowT Pl.cells u',u',by simp[hw],by omega,by first | (simp;done) | (simp;rfl),.inl rfl,hes,hc,hsz,hnu⟩
       ·simp[s15,hw];omega
      ·have e1:=(hxt c0).1.code;have e2:=hsx c0;rw[if_pos c0]at hes;rw[c2];generalize (dY root L n d u').1=X at*;simp[bH];apply hK;clear K' hK;apply aA;refine aR fun K' hK=> ?_
       simp;apply hK;clear K' hK;refine aYk (by simp) ?_;refine aS fun K' hK=> ?_
       simp;apply hK;clear K' hK;apply ak
       refine ah ?_;refine aS fun K' hK=> ?_
       simp[s15,hw];apply hK;clear K' hK;refine ak (ay ?_ ?_)
       ·exact⟨by simp[s1],by simp[s3],by simp[n0,g0'],by simp[s10],by simp[np,gp'],by simp[s12],by simp[s13],by simp[nE,gE'],by omega,j+1,_,X,by simp[hw],by omega,rfl,.inr ⟨nz,by simp,by omega,.inr ⟨by omega,by simp⟩⟩,hes,e1,e2,by omega⟩
       ·simp[s15,hw];omega
      ·rw[if_neg c0]at hes;rw[hes,if_neg c0]at hgs;rw[c2];have hgo:=hG2 _ _ hgs c0;generalize (dY root L n d u').2=c at*;simp[bH];apply hK;clear K' hK;rw[hgo];apply aA;refine aR fun K' hK=> ?_
       simp[c0];apply hK;clear K' hK;refine aX (by simp) ?_;apply aA;refine aR fun K' hK=> ?_
       simp;apply hK;clear K' hK;apply aJ
       simp[au,aF,Post,bC,res1,bF,bg,aP,bf,aW,okT,okA,ok1,rowOf,Tryz.f20]
     ·skip;apply bG
      refine aI (aH ?_);have hje:j=E.length:=(by omega);subst hje;rw[List.drop_length]at hes;have hes:eu root L n E u=(u',0):=hes;rw[hes,if_pos rfl]at hgs;have hw2:IntKind.i64.wrap (↑n+1)=((n+1:Nat):Int):=dw (by omega);apply ak
      refine ah ?_;refine aS fun K' hK=> ?_
      simp[s12,hw2];apply hK;clear K' hK;refine ak (ay ?_ ?_)
      ·exact⟨by simp[s1],by simp[s3],g0,by omega,⟨p,by simp[s10],gp,by omega⟩,n+1,k,x,u',by simp[hw2],by omega,by omega,by simp[s11],hx,hgs,hc,hsz⟩
      ·simp[o12,s12,hw2];omega
   ·rw[if_neg (by omega)]at hgs;rw[hG1 _ hgs];apply bG
    refine aI (aH ?_);refine aR fun K' hK=> ?_
    simp[s11];apply hK;clear K' hK;rcases hx with rfl | ⟨q,rfl,hq,h | ⟨h,_⟩⟩
    ·skip;apply aG
     simp[au,aF,Post,bC,res1,bF,bg,aP,bf,aW,okT,okA,ok1,rowOf,Tryz.f20];all_goals first | exact⟨rfl,rfl⟩ | rfl
    ·have hfl:(flat Pl.cells u).length=u.length*6:=fE;apply aG
     simp[au,aF,Post,bC,res1,bF,bg,aP,bf,aW,okT,okA,ok1,rowOf,Tryz.f20,h,c50,hfl];all_goals first | exact⟨rfl,rfl⟩ | rfl
    ·omega
  ·rw[if_neg hc]at hGe;rw[hG2 _ _ hGe hc];apply aA;refine aR fun K' hK=> ?_
   simp[hc];apply hK;clear K' hK;refine aX (by simp) ?_;apply aA;refine aR fun K' hK=> ?_
   simp;apply hK;clear K' hK;apply aJ
   simp[au,aF,Post,bC,res1,bF,bg,aP,bf,aW,okT,okA,ok1,rowOf,Tryz.f20]
 ·unfold ig;split<;>rfl
theorem LH (root:Man) (L:List Man) (t:List Pl) (hsz:gy root L t) (n:Int) (d:Dep) (v:Ver) (hd:d.name.size≤1000000) (hv:v.pre.size≤1000000):CallsOK Tryz.prog 16 [.agg root.cells,rowT Man.cells L,rowT Pl.cells t,iV n,.agg d.cells,.agg v.cells] (iV (qO root L t n d v)) []:=by
 have hW:=zo root L t hsz;have hR:qO root L t n d v=if codeV root L t=0∧0≤n∧n<t.length then ji root L t n.toNat d v else-1:=rfl;refine aO mixed Tryz.call16 Tryz.func16 rfl (by rw[Tryz.ntmps16];simp) ?_ rfl;rw[Tryz.ntmps16];refine aR fun K' hK=> ?_
 simp;apply hK;clear K' hK;refine aR fun K' hK=> ?_
 simp;refine aN hW (by first | rfl | (simp;done) | (simp;rfl) | (simp;exact⟨rfl,rfl⟩)) ?_;simp[bH];apply hK;clear K' hK;by_cases hc:codeV root L t=0
 ·by_cases h0:0≤n
  ·by_cases h1:n<t.length
   ·rw[if_pos ⟨hc,h0,h1⟩]at hR;obtain⟨m,rfl⟩:∃m:Nat,n=m:=⟨n.toNat,by omega⟩;have g:Good t:=dM.1 (dA.1 hc).2.2;have hS:=CG root L t hsz g m (by omega) d v hd hv;rw[Int.toNat_natCast]at hR;rw[hR];have h2:¬(m:Int)<0:=(by omega);have h3:¬(t.length:Int)≤m:=(by omega);have h4:¬t.length≤m:=(by omega);apply aA;refine aR fun K' hK=> ?_
    simp[hc,h2,h3,h4];apply hK;clear K' hK;refine aYk (by simp) ?_;refine aR fun K' hK=> ?_
    simp;refine aj hS rfl (by first | rfl | (simp[qy];done) | (simp[qy];rfl) | (simp[qy];exact⟨rfl,rfl⟩)) ?_;simp;apply hK;clear K' hK;apply aG
    simp[au,aF,Post,bC,res1,bF,bg,aP,bf,aW,okT,okA,ok1,rowOf,Tryz.f16]
   ·rw[if_neg (fun h=>h1 h.2.2)]at hR;rw[hR];have h2:¬n<0:=(by omega);have h3:(t.length:Int)≤n:=(by omega);apply aA;refine aR fun K' hK=> ?_
    simp[hc,h2,h3];apply hK;clear K' hK;refine aX (by simp) ?_;apply aA;refine aR fun K' hK=> ?_
    simp;apply hK;clear K' hK;apply aJ
    simp[au,aF,Post,bC,res1,bF,bg,aP,bf,aW,okT,okA,ok1,rowOf,Tryz.f16]
  ·rw[if_neg (fun h=>h0 h.2.1)]at hR;rw[hR];have h2:n<0:=(by omega);apply aA;refine aR fun K' hK=> ?_
   simp[hc,h2];apply hK;clear K' hK;refine aX (by simp) ?_;apply aA;refine aR fun K' hK=> ?_
   simp;apply hK;clear K' hK;apply aJ
   simp[au,aF,Post,bC,res1,bF,bg,aP,bf,aW,okT,okA,ok1,rowOf,Tryz.f16]
 ·rw[if_neg (fun h=>hc h.1)]at hR;rw[hR];apply aA;refine aR fun K' hK=> ?_
  simp[hc];apply hK;clear K' hK;refine aX (by simp) ?_;apply aA;refine aR fun K' hK=> ?_
  simp;apply hK;clear K' hK;apply aJ
  simp[au,aF,Post,bC,res1,bF,bg,aP,bf,aW,okT,okA,ok1,rowOf,Tryz.f16]
set_option maxRecDepth 100000
set_option maxHeartbeats 4000000
@[simp] theorem ty78:tyI Tryz.prog 78=some (false,1):=by kernel_rfl
@[simp] theorem ty129:tyI Tryz.prog 129=some (false,1):=by kernel_rfl
def jJ (root:Man) (L:List Man) (x:AV):List AV:=root.cells++[rowT Man.cells L,x]
@[simp] theorem growC_len (root:Man) (L:List Man) (x:AV):(jJ root L x).length=9:=rfl
@[simp] theorem grow_root (root:Man) (L:List Man) (x:AV):gX (jJ root L x) 0 7=some root.cells:=rfl
@[simp] theorem grow_rules (root:Man) (L:List Man) (x:AV):gX (jJ root L x) 6 1=some [rowT Ru.cells root.rules]:=rfl
@[simp] theorem grow_x (root:Man) (L:List Man) (x:AV):gX (jJ root L x) 7 1=some [rowT Man.cells L]:=rfl
@[simp] theorem grow_t (root:Man) (L:List Man) (x:AV):gX (jJ root L x) 8 1=some [x]:=rfl
def Kept (G X:Hp) (nx:Nat) (x:AV):Prop:=∀k,k<nx→(∀m,x≠ .row k m)→X k=G k
theorem kJ.see {P:Prop} {G:Hp} {nx:Nat} {x:AV} {u:List Pl} (h:kJ P G nx x u):uw Tryz.prog G x=some (rowT Pl.cells u):=by
 have ht:=h.tree;rcases h with rfl | ⟨q,rfl,_,h⟩
 ·rfl
 ·simp only[uw,lookA];exact ht
theorem Kept.all {G X:Hp} {nx ny:Nat} {x:AV} {u:List Pl} (h:Kept G X nx x) (h1:kJ False G nx x u) (h2:kJ False X ny x u):∀k,k<nx→X k=G k:=by
 intro k hk;by_cases hx:∀m,x≠ .row k m
 ·exact h k hk hx
 ·have:∃m,x=.row k m:=Classical.byContradiction fun hn=>hx fun m e=>hn ⟨m,e⟩;obtain⟨m,rfl⟩:=this;rcases h1 with h1 | ⟨q,e1,_,h1 | ⟨h1,_⟩⟩
  ·cases h1
  ·rcases h2 with h2 | ⟨q2,e2,_,h2 | ⟨h2,_⟩⟩
   ·cases h2
   ·injection e1 with e1;injection e2 with e2;subst e1;subst e2;rw[h1,h2]
   ·exact h2.elim
  ·exact h1.elim
theorem KG {root:Man} {L:List Man} {u:List Pl} (hsz:gy root L u) (g:Good u) {n:Nat} {P:Prop} {G:Hp} {nx W:Nat} {x:AV} {K:AV→Hp→Nat→Prop} (hx:kJ P G nx x u) (hW:G W=some (.var 80 (jJ root L x))) (hWn:W<nx)
  (hKK:∀X ny r,nx≤ny→Kept G X nx x→kJ False X ny x u→nx≤r→r<ny→X r=some (.row 35 (flat Dep.cells (edgesV root L u n)))→K (.tup [.row r (edgesV root L u n).length,bV (manVal root L u n).isSome]) X ny):LZ Tryz.prog 45 [.ptr W 0,iV n] K G nx:=by
 obtain⟨hr,hro,hL,hLo,ht,htv⟩:=id hsz;have hune:u≠[]:=List.ne_nil_of_length_pos g.pos;refine BI mixed Tryz.call45 Tryz.func45 rfl (by rw[Tryz.ntmps45];simp) fun hf=> ?_;rw[Tryz.ntmps45];have hM:=rJ root hro L hL.1 hLo u ht n;have hE:edgesV root L u n=match manVal root L u n with
  | none=>[]
  | some m=>ofF m.deps root.rules (decide ((n:Int)=0)):=rfl
 have hms:=fun m (h:manVal root L u n=some m)=>jY h;have nW:¬W=nx:=(by omega);have hx1:kJ P (G.upd nx (.row 35 [])) (nx+1) x u:=hx.keep (by omega) id fun k hk=>Hp.upd_ne _ _ (by omega);have xW:∀m,x≠ .row W m:=hx.rY hW;have hdec:decide ((n:Int)=0)=decide (n=0):=(by simp);generalize hmo:manVal root L u n=mo at*;refine aR fun K' hK=> ?_
 simp;apply hK;clear K' hK;refine eY none [] (by decide+kernel) (by decide+kernel) (fun p' hp'=>by cases hp') fun K' hK=> ?_;simp[hW,nW];refine zB hM hx1 hune ?_;rintro G' hfz hx2;have hW':G' W=some (.var 80 (jJ root L x)):=(by rw[hfz W xW,Hp.upd_ne _ _ nW];exact hW);have hkp:∀k,k<nx→(∀m,x≠ .row k m)→G' k=G k:=fun k hk hm=>(by rw[hfz k hm,Hp.upd_ne _ _ (by omega)]);cases mo with
 | none=>
  have hE:edgesV root L u n=[]:=hE;rw[hE]at hKK;simp[uK,dG];apply hK;clear K' hK;have n2:¬W=nx+1:=(by omega);refine aQ fun K' hK=> ?_
  simp[hW',n2];refine aN (UE root.rules (decide ((n:Int)=0)) hro.2) (by first | rfl | (simp;done) | (simp;rfl) | (simp;exact⟨rfl,rfl⟩)) ?_;simp[bH];apply hK;clear K' hK;apply aG
  simp[au,aF,Post,bC,res1,bF,bg,aP,bf,aW,okT,okA,ok1,rowOf,Tryz.f45];exact hKK _ _ (nx+1+1) (by omega) (fun k hk hm=>by rw[Hp.upd_ne _ _ (by omega),Hp.upd_ne _ _ (by omega),Hp.upd_ne _ _ (by omega)];exact hkp k hk hm) (hx2.keep (by omega) id fun k hk=>by rw[Hp.upd_ne _ _ (by omega),Hp.upd_ne _ _ (by omega),Hp.upd_ne _ _ (by omega)]) (by omega) (by omega) (by simp)
 | some m=>
  have hE:edgesV root L u n=ofF m.deps root.rules (decide ((n:Int)=0)):=hE;rw[hE,hdec]at hKK;have hmz:Man.okS m:=by
   rcases hms m rfl with rfl | h
   ·exact hro
   ·exact hLo _ h
  simp[uK,jV];apply hK;clear K' hK;refine fO (fun u H nz=>u 0=.ptr W 0∧u 1=iV n∧u 6=.ptr (nx+3) 0∧u 7=bV true∧nz=nx+4∧(∀k,k<nx+1→H k=G' k)∧H (nx+1)=some (.row 35 (flat Dep.cells m.deps))∧H (nx+2)=some (.row 134 (flat Ru.cells m.rules))∧H (nx+3)=some (.var 27 (m.dX (.row (nx+1) m.deps.length) (.row (nx+2) m.rules.length)))) ?_ ?_
  ·refine⟨by simp,by simp,by simp,by simp,by omega,fun k hk=>by repeat rw[Hp.upd_ne _ _ (by omega)],by simp,by simp,by simp[Nat.add_comm,Nat.add_left_comm]⟩
  rintro s H nz ⟨u0,u1,u6,u7,rfl,hH,k1,k2,k3⟩;have hT:=lq (show¬nx+2=nx+1 by omega) k1 k2;have hWH:H W=some (.var 80 (jJ root L x)):=(by rw[hH W (by omega)];exact hW');refine aQ fun K' hK=> ?_
  simp[u0,u1,u6,k3,hWH];refine aN (sH m root.rules (decide ((n:Int)=0)) hmz.1 hro.2) (by simp[hT]) ?_;simp[bH,hT];apply hK;clear K' hK;apply aG
  simp[au,aF,Post,bC,res1,bF,bg,aP,bf,aW,okT,okA,ok1,rowOf,Tryz.f45,u7];exact hKK _ _ (nx+4) (by omega) (fun k hk hm=>by rw[Hp.upd_ne _ _ (by omega),dP (by omega),dP (by omega),hH k (by omega)];exact hkp k hk hm) (hx2.keep (by omega) id fun k hk=>by rw[Hp.upd_ne _ _ (by omega),dP (by omega),dP (by omega),hH k (by omega)]) (by omega) (by omega) (by simp)
theorem Qm {G:Hp} {x a:AV} {n:Int} {d:Dep} (h:uw Tryz.prog G x=some a):seesA Tryz.prog G [x,iV n,.agg d.cells]=some [a,iV n,.agg d.cells]:=by
 simp only[seesA,h];rfl
theorem RF {root:Man} {L:List Man} {t w:List Pl} (hsz:gy root L t) (hszw:gy root L w) (g:Good t) (gw:Good w) (hle:t.length≤w.length) {G0:Hp} {n0 W q:Nat} {x:AV} {K:AV→Hp→Nat→Prop} (hx:kJ False G0 n0 x t) (hW:G0 W=some (.var 80 (jJ root L x))) (hWn:W<n0) (hq:G0 q=some (.row 50 (flat Pl.cells w))) (hqn:q<n0)
  (hKK:∀X ny,n0≤ny→(∀k,k<n0→X k=G0 k)→K (bV (mV root L t w)) X ny):LZ Tryz.prog 82 [.ptr W 0,.row q w.length] K G0 n0:=by
 obtain⟨hr,hro,hL,hLo,ht,htv⟩:=id hsz;obtain⟨_,_,_,_,hwo,hwv⟩:=id hszw;have htl:=g.le;rw[DW]at hKK;refine BI mixed Tryz.call82 Tryz.func82 rfl (by rw[Tryz.ntmps82];simp) fun hf=> ?_;rw[Tryz.ntmps82];have hlen:=hx.len;refine aR fun K' hK=> ?_
 simp;apply hK;clear K' hK;apply aA;refine aR fun K' hK=> ?_
 simp[hW,hlen];apply hK;clear K' hK;apply aB
 refine bI (fun s X nx=>s 0=.ptr W 0∧s 1=.row q w.length∧s 14=iV t.length∧n0≤nx∧(∀k,k<n0→X k=G0 k)∧∃n:Nat,s 15=iV n∧n≤t.length∧∀j,j<n→qm root L t w j=true) (fun s _ _=>match s 15 with | .v (.int _ n)=>t.length-n.toNat | _=>0) ?_ ?_
 ·exact⟨by simp,by simp,by simp,by omega,fun k hk=>rfl,0,by simp,by omega,fun j hj=>by omega⟩
 rintro s X nx-⟨s0,s1,s14,hnx,hX,n,s15,hn,hall⟩;have hwn:IntKind.i64.wrap (↑n+1)=((n+1:Nat):Int):=dw (by omega);refine aR fun K' hK=> ?_
 simp[s14,s15];apply hK;clear K' hK;refine aC fun A B hA hB=> ?_
 simp;refine⟨fun hn2=>hA ?_,fun hn2=>hB ?_⟩<;>clear hA hB A B<;>(try simp at hn2)<;>(try with_reducible refine aK ?_)
 ·have hxX:kJ False X nx x t:=hx.keep hnx id hX;have hWX:X W=some (.var 80 (jJ root L x)):=(hX W hWn).trans hW;have hEd:=fun K'=>KG (n:=n) (K:=K') hsz g hxX hWX (by omega);have hEz:=jZ (t:=t) (n:=n) hr hL;have hEl:=rH (t:=t) (n:=n) hr hL;have hat:qm root L t w n=(edgesV root L t n).all fun d=> !holdsV t n d || holdsV w n d:=rfl;generalize (manVal root L t n).isSome=sm at*;generalize edgesV root L t n=E at*;apply aB;refine aR fun K' hK=> ?_
  simp[s15];apply hK;clear K' hK;refine aR fun K' hK=> ?_
  simp[s0];refine dN (hEd _ ?_);rintro Y ny r hny hYk hYx hr1 hr2 hYr;have hY:=hYk.all hxX hYx;simp[yB];apply hK;clear K' hK;refine aR fun K' hK=> ?_
  simp[hYr];apply hK;clear K' hK;refine dJ (aB ?_)
  refine bI (fun s Z nz=>s 0=.ptr W 0∧s 1=.row q w.length∧s 14=iV t.length∧s 15=iV n∧s 5=iV n∧ny≤nz∧(∀k,k<n0→Z k=G0 k)∧s 24=.row r E.length∧s 25=iV E.length∧Z r=some (.row 35 (flat Dep.cells E))∧∃j:Nat,s 26=iV j∧j≤E.length∧∀i,i<j→(!holdsV t n (nth E i) || holdsV w n (nth E i))=true) (fun s _ _=>match s 26 with | .v (.int _ n)=>E.length-n.toNat | _=>0) ?_ ?_
  ·exact⟨by simp[s0],by simp[s1],by simp[s14],by simp[s15],by simp,by omega,fun k hk=>(hY k (by omega)).trans (hX k hk),by simp,by simp,hYr,0,by simp,by omega,fun j hj=>by omega⟩
  have o15:=s15;clear s0 s1 s14 s15;rintro s Z nz-⟨s0,s1,s14,s15,s5,hnz,hZ,s24,s25,hZr,j,s26,hj,hok⟩;have hw:IntKind.i64.wrap (↑j+1)=((j+1:Nat):Int):=dw (by omega);refine aR fun K' hK=> ?_
  simp[s25,s26];apply hK;clear K' hK;refine aC fun A B hA hB=> ?_
  simp;refine⟨fun hj2=>hA ?_,fun hj2=>hB ?_⟩<;>clear hA hB A B<;>(try simp at hj2)<;>(try with_reducible refine aK ?_)
  ·have hd:=(hEz _ (bK hj2)).1;have h1:=oh t ht htv n (nth E j) hd;have h2:=oh w hwo hwv n (nth E j) hd;have hmem:=bK hj2;have hWZ:Z W=some (.var 80 (jJ root L x)):=(hZ W hWn).trans hW;have hqZ:Z q=some (.row 50 (flat Pl.cells w)):=(hZ q hqn).trans hq;generalize hgd:nth E j=d at*;have nW:¬W=nz:=(by omega);have nq:¬q=nz:=(by omega);have nr:¬r=nz:=(by omega);apply aB;refine aR fun K' hK=> ?_
   simp[s24,s26,hZr,hj2,hgd];apply hK;clear K' hK;have hH:∀o1 o2 k,k<n0→((Z.upd nz o1).upd nz o2) k=G0 k:=fun o1 o2 k hk=>(by rw[Hp.upd_ne _ _ (by omega),Hp.upd_ne _ _ (by omega)];exact hZ k hk);have hxs:=fun H hH=>(hx.keep (Q:=False) (G':=H) (Nat.le_refl _) id hH).see;have hqs:∀H:Hp,(∀k,k<n0→H k=G0 k)→uw Tryz.prog H (.row q w.length)=some (rowT Pl.cells w):=fun H hH=>(show kJ True H n0 (.row q w.length) w from .inr ⟨q,rfl,hqn,.inr ⟨trivial,(hH q hqn).trans hq⟩⟩).see;refine aQ fun K' hK=> ?_
   simp[s0,s5,hWZ,nW];refine aj h1 rfl (Qm (hxs _ (hH _ _))) ?_;cases ht1:holdsV t n d with
   | false=>
    simp;apply hK;clear K' hK;refine aVk (by simp) ?_;apply ak
    refine ah ?_;refine aS fun K' hK=> ?_
    simp[s26,hw];apply hK;clear K' hK;refine ak (ay ?_ ?_)
    ·exact⟨by simp[s0],by simp[s1],by simp[s14],by simp[s15],by simp[s5],by omega,hH _ _,by simp[s24],by simp[s25],by simp[nr,hZr],j+1,by simp[hw],by omega,fun i hi=>by
      rcases Nat.lt_or_ge i j with h | h
      ·exact hok i h
      ·have:i=j:=(by omega);subst this;rw[hgd,ht1];rfl⟩
    ·simp[s26,hw];omega
   | true=>
    simp[s1,s5];refine aj h2 rfl (Qm (hqs _ (hH _ _))) ?_;cases ht2:holdsV w n d with
    | false=>
     simp;apply hK;clear K' hK;refine aU (by simp) ?_;apply aA;refine aR fun K' hK=> ?_
     simp;apply hK;clear K' hK;have hf:qm root L t w n=false:=by
      rw[hat,←Bool.not_eq_true,List.all_eq_true];intro hh;have:=hh d hmem;rw[ht1,ht2]at this;cases this
     rw[uT hn2 hf]at hKK;apply aJ
     simp[au,aF,Post,bC,res1,bF,bg,aP,bf,aW,okT,okA,ok1,rowOf,Tryz.f82];exact hKK _ _ (by omega) (hH _ _)
    | true=>
     simp;apply hK;clear K' hK;refine aVk (by simp) ?_;apply ak
     refine ah ?_;refine aS fun K' hK=> ?_
     simp[s26,hw];apply hK;clear K' hK;refine ak (ay ?_ ?_)
     ·exact⟨by simp[s0],by simp[s1],by simp[s14],by simp[s15],by simp[s5],by omega,hH _ _,by simp[s24],by simp[s25],by simp[nr,hZr],j+1,by simp[hw],by omega,fun i hi=>by
       rcases Nat.lt_or_ge i j with h | h
       ·exact hok i h
       ·have:i=j:=(by omega);subst this;rw[hgd,ht2];simp⟩
     ·simp[s26,hw];omega
  ·skip;apply bG
   refine aI (aH ?_);apply ak
   refine ah ?_;refine aS fun K' hK=> ?_
   simp[s15,hwn];apply hK;clear K' hK;refine ak (ay ?_ ?_)
   ·exact⟨by simp[s0],by simp[s1],by simp[s14],by omega,hZ,n+1,by simp[hwn],by omega,fun i hi=>by
     rcases Nat.lt_or_ge i n with h | h
     ·exact hall i h
     ·have:i=n:=(by omega);subst this;rw[hat,List.all_eq_true];intro d hd;obtain⟨k,hk,rfl⟩:=List.mem_iff_getElem.1 hd;have:=hok k (by omega);rw[bZ hk]at this;exact this⟩
   ·simp[o15,s15,hwn];omega
 ·skip;apply bG
  refine aI (aH ?_);rw[Cm fun j hj=>hall j (by omega)]at hKK;refine aR fun K' hK=> ?_
  simp;apply hK;clear K' hK;apply aG
  simp[au,aF,Post,bC,res1,bF,bg,aP,bf,aW,okT,okA,ok1,rowOf,Tryz.f82];exact hKK _ _ hnx hX
set_option maxRecDepth 100000
set_option maxHeartbeats 4000000
theorem Uu {G:Hp} {x a:AV} {i:Int} {b:Bs} {v:Ver} (h:uw Tryz.prog G x=some a):seesA Tryz.prog G [x,iV i,sV b,.agg v.cells]=some [a,iV i,sV b,.agg v.cells]:=by
 simp only[seesA,h];rfl
theorem Jh {G:Hp} {x a:AV} {i:Int} {b:Bs} (h:uw Tryz.prog G x=some a):seesA Tryz.prog G [x,iV i,sV b]=some [a,iV i,sV b]:=by
 simp only[seesA,h];rfl
theorem kJ.wild {G:Hp} {nx:Nat} {x:AV} {u:List Pl} (h:kJ False G nx x u):∀X:Hp,(∀k,k<nx→X k=G k)→kJ False X nx x u:=fun X hX=>h.keep (Nat.le_refl _) id hX
theorem Uz {root:Man} {L:List Man} {t:List Pl} (hsz:gy root L t) (g:Good t) {d:Dep} {v:Ver} (hd:d.name.size≤1000000) (hv:v.pre.size≤1000000) {p:Nat} (hp:p<t.length) {G:Hp} {nx W D0 D1 D2:Nat} {x:AV} {K:AV→Hp→Nat→Prop}
  (hx:kJ False G nx x t) (hW:G W=some (.var 80 (jJ root L x))) (hWn:W<nx) (h0:G D0=some (.var 78 [.ptr W 0])) (h0n:D0<nx) (h1:G D1=some (.var 35 d.cells)) (h1n:D1<nx) (h2:G D2=some (.var 23 v.cells)) (h2n:D2<nx)
  (hKK:∀X ny,nx≤ny→(∀k,k<nx→X k=G k)→K (bV (fM root L t d v p)) X ny):LZ Tryz.prog 81 [iV p,.ptr D0 0,.ptr D1 0,.ptr D2 0] K G nx:=by
 obtain⟨hr,hro,hL,hLo,ht,htv⟩:=id hsz;have htl:=g.le;have hA:=Au t ht p d.name v (by omega) (by omega);have hso:fM root L t d v p=(decide (cZ t p d.name v=0)&&mV root L t (gY t p d.name v)):=rfl;refine BI mixed Tryz.call81 Tryz.func81 rfl (by rw[Tryz.ntmps81];simp) fun hf=> ?_;rw[Tryz.ntmps81];have nW:¬W=nx:=(by omega);have n0:¬D0=nx:=(by omega);have n1:¬D1=nx:=(by omega);have n2:¬D2=nx:=(by omega);refine aR fun K' hK=> ?_
 simp;apply hK;clear K' hK;refine aQ fun K' hK=> ?_
 simp[h0,h1,h2,hW];refine tH hA ⟨rfl,VZ _ _⟩ (Uu hx.see) ?_;simp[bH];apply hK;clear K' hK;by_cases hc0:cZ t p d.name v=0
 ·have hgu:=oQ hc0;have hzu:=Hy (i:=p) hsz (by omega) hd hv;have hadr:=vX hc0;have hlen:t.length≤(gY t p d.name v).length:=(by rw[eU];omega);have hso2:fM root L t d v p=mV root L t (gY t p d.name v):=(by rw[hso,hc0];simp);rw[hso2]at hKK;rw[hadr];generalize gY t p d.name v=w at*;have hx1:kJ False (G.upd nx (.row 50 (flat Pl.cells w))) (nx+1) x t:=hx.keep (by omega) id fun k hk=>Hp.upd_ne _ _ (by omega);refine aR fun K' hK=> ?_
  simp[hc0,h0,n0];refine dN (RF hsz hzu g hgu hlen hx1 (by rw[Hp.upd_ne _ _ nW];exact hW) (by omega) (q:=nx) (by simp) (by omega) ?_);rintro X ny hny hX;simp[yB];apply hK;clear K' hK;apply aG
  simp[au,aF,Post,bC,res1,bF,bg,aP,bf,aW,okT,okA,ok1,rowOf,Tryz.f81];exact hKK X ny (by omega) fun k hk=>by rw[hX k (by omega),Hp.upd_ne _ _ (by omega)]
 ·have hb:fM root L t d v p=false:=(by rw[hso];simp[hc0]);rw[hb]at hKK;refine aR fun K' hK=> ?_
  simp[hc0];apply hK;clear K' hK;apply aG
  simp[au,aF,Post,bC,res1,bF,bg,aP,bf,aW,okT,okA,ok1,rowOf,Tryz.f81];exact hKK _ _ (by omega) fun k hk=>by rw[Hp.upd_ne _ _ (by omega)]
def Q5 (o:Int):Int:=if 0≤o then o else 0
theorem QW {root:Man} {L:List Man} {t:List Pl} (hsz:gy root L t) (g:Good t) {n:Nat} (hn:n<t.length) {d:Dep} {v:Ver} (hd:d.name.size≤1000000) (hv:v.pre.size≤1000000) {G:Hp} {nx W:Nat} {x:AV} {K:AV→Hp→Nat→Prop}
  (hx:kJ False G nx x t) (hW:G W=some (.var 80 (jJ root L x))) (hWn:W<nx)
  (hKK:∀X ny,nx≤ny→(∀k,k<nx→X k=G k)→K (iV (ji root L t n d v)) X ny):LZ Tryz.prog 41 [.ptr W 0,iV n,.agg d.cells,.agg v.cells] K G nx:=by
 obtain⟨hr,hro,hL,hLo,ht,htv⟩:=id hsz;have htl:=g.le;have hsp:ji root L t n d v=nP (fM root L t d v) (sJ t d.name (iO t n d)) (-1):=(by unfold ji;rw[GV g hn]);rw[hsp]at hKK;have hst:=start_lt g hn d;refine BI mixed Tryz.call41 Tryz.func41 rfl (by rw[Tryz.ntmps41];simp) fun hf=> ?_;rw[Tryz.ntmps41];refine aR fun K' hK=> ?_
 simp[Nat.add_assoc];apply hK;clear K' hK;refine aR fun K' hK=> ?_
 simp[Nat.add_assoc];refine dN (BI mixed Tryz.call80 Tryz.func80 rfl (by rw[Tryz.ntmps80];simp) fun hf=> ?_);rw[Tryz.ntmps80];refine aR fun K' hK=> ?_
 simp[Nat.add_assoc];apply hK;clear K' hK;refine aR fun K' hK=> ?_
 simp[Nat.add_assoc];apply hK;clear K' hK;apply aG
 simp[au,aF,Post,bC,res1,bF,bg,aP,bf,aW,okT,okA,ok1,rowOf,Tryz.f80];refine dN (BI mixed Tryz.call79 Tryz.func79 rfl (by rw[Tryz.ntmps79];simp) fun hf=> ?_);rw[Tryz.ntmps79];refine aR fun K' hK=> ?_
 simp[Nat.add_assoc];apply hK;clear K' hK;refine aR fun K' hK=> ?_
 simp[Nat.add_assoc];apply hK;clear K' hK;refine aR fun K' hK=> ?_
 simp[Nat.add_assoc];apply hK;clear K' hK;apply aA;refine aR fun K' hK=> ?_
 simp[Nat.add_assoc];apply hK;clear K' hK;refine fO (fun u H nz=>u 3=.ptr (nx+6) 0∧u 6=.ptr (nx+7) 0∧u 7=.ptr (nx+8) 0∧u 9=.fn 123 [.ptr (nx+4) 0,.ptr (nx+5) 0,.ptr (nx+3) 0]∧nz=nx+9∧H (nx+6)=some (.var 129 [.fn 81 [.ptr nx 0,.ptr (nx+1) 0,.ptr (nx+2) 0]])∧H nx=some (.var 78 [.ptr W 0])∧H (nx+1)=some (.var 35 d.cells)∧H (nx+2)=some (.var 23 v.cells)∧H (nx+3)=some (.var 78 [.ptr W 0])∧H (nx+4)=some (.var 3 [iV n])∧H (nx+5)=some (.var 35 d.cells)∧H (nx+7)=some (.var 3 [iV 0])∧H (nx+8)=some (.var 4 [bV false])∧∀k,k<nx→H k=G k) ?_ ?_
 ·refine⟨by simp,by simp,by simp,by simp,by omega,by simp,by simp,by simp,by simp,by simp,by simp,by simp,by simp,by simp,fun k hk=>by repeat rw[Hp.upd_ne _ _ (by omega)]⟩
 rintro s H nz ⟨s3,s6,s7,s9,rfl,hF,hD0,hD1,hD2,hC3,hC4,hC5,hB6,hB7,hH⟩;have hWH:H W=some (.var 80 (jJ root L x)):=(by rw[hH W hWn];exact hW);have w9:¬W=nx+9:=(by omega);refine eP (fun u X ny=>u 6=.ptr (nx+7) 0∧u 7=.ptr (nx+8) 0∧nx+9<ny∧(∀k,k<nx→X k=G k)∧∃o:Int,-1≤o∧X (nx+7)=some (.var 3 [iV (Q5 o)])∧X (nx+8)=some (.var 4 [bV (decide (0≤o))])∧nP (fM root L t d v) (sJ t d.name (iO t n d)) (-1)=o) ?_ ?_
 ·skip;refine dJ (aB ?_)
  refine jU (f:=123) (fn:=Tryz.f123) mixed s9 Tryz.call123 Tryz.func123 rfl (by rw[Tryz.ntmps123];simp) rfl ?_;rw[Tryz.ntmps123];generalize hL:(Lp.mk s 17 _ _ _)=Lq;have hLs:Lq.s=s:=(by subst hL;rfl);have hround:∀(p:Nat) (o:Int) (K:AV→Hp→Nat→Prop) (X:Hp) (ny:Nat),p<t.length→nx+9<ny→(∀k,k<nx+7→X k=H k)→X (nx+7)=some (.var 3 [iV (Q5 o)])→X (nx+8)=some (.var 4 [bV (decide (0≤o))])→X (nx+9)=some (Lq.o .ready none)→
    (∀X' ny',ny≤ny'→(∀k,k<nx+7→X' k=H k)→X' (nx+7)=some (.var 3 [iV (Q5 (if fM root L t d v p=true then(p:Int)else o))])→X' (nx+8)=some (.var 4 [bV (decide (0≤(if fM root L t d v p=true then(p:Int)else o)))])→X' (nx+9)=some (Lq.o .ready none)→K (bV true) X' ny')→Eo Tryz.prog (nx+9) [iV p] K X ny:=by
   subst hL;clear hB6 hB7;intro p o K X ny hp hny hX hX7 hX8 hXZ k1;have hFx:=(hX (nx+6) (by omega)).trans hF;have nz:∀(Y:Hp) (ob:AObj),(∀k,k<ny→Y k=(X.upd (nx+9) ob) k)→∀k,k<nx→Y k=G k:=fun Y ob hY k hk=>(by rw[hY k (by omega),Hp.upd_ne _ _ (by omega),hX k (by omega),hH k hk]);refine OO mixed hXZ rfl (by simp) rfl rfl fun hf=> ?_;refine aS fun K' hK=> ?_
   simp;apply hK;clear K' hK;refine⟨rfl,hXZ,?_⟩;dsimp only;generalize (Lp.mk s 17 _ _ _)=Lq at hXZ k1⊢;refine dJ (aB ?_);refine aR fun K' hK=> ?_
   simp[s3,hFx];refine dN (Uz (W:=W) hsz g hd hv hp (hx.keep (ny:=ny) (by omega) id fun k hk=>nz _ _ (fun _ _=>rfl) k hk) ?_ (by omega) (D0:=nx) ?_ (by omega) (D1:=nx+1) ?_ (by omega) (D2:=nx+2) ?_ (by omega) ?_)
   ·rw[Hp.upd_ne _ _ (by omega),hX W (by omega)];exact hWH
   ·rw[Hp.upd_ne _ _ (by omega),hX _ (by omega)];exact hD0
   ·rw[Hp.upd_ne _ _ (by omega),hX _ (by omega)];exact hD1
   ·rw[Hp.upd_ne _ _ (by omega),hX _ (by omega)];exact hD2
   rintro Y ny2 hny2 hY;have y7:Y (nx+7)=some (.var 3 [iV (Q5 o)]):=(by rw[hY _ (by omega),Hp.upd_ne _ _ (by omega)];exact hX7);have y8:Y (nx+8)=some (.var 4 [bV (decide (0≤o))]):=(by rw[hY _ (by omega),Hp.upd_ne _ _ (by omega)];exact hX8);have yZ:Y (nx+9)=some (Lq.o .busy none):=(by rw[hY _ (by omega),Hp.bY]);have yH:∀k,k<nx+7→Y k=H k:=fun k hk=>(by rw[hY k (by omega),Hp.upd_ne _ _ (by omega)];exact hX k hk);simp[yB];apply hK;clear K' hK;cases hb:fM root L t d v p with
   | true=>
    rw[if_pos hb]at k1;refine aU (by simp) ?_;refine aR fun K' hK=> ?_
    simp[s6,s7,y7,y8];apply hK;clear K' hK;apply ak
    refine ah ?_;refine ak (dF (by simp[yZ]) ?_);exact k1 _ _ (by omega) (fun k hk=>by rw[Hp.upd_ne _ _ (by omega),Hp.upd_ne _ _ (by omega),Hp.upd_ne _ _ (by omega)];exact yH k hk) (by simp[Q5]) (by simp) (by simp)
   | false=>
    rw[if_neg (by rw[hb];simp)]at k1;refine aVk (by simp) ?_;apply ak
    refine ah ?_;refine ak (dF yZ ?_);exact k1 _ _ (by omega) (fun k hk=>by rw[Hp.upd_ne _ _ (by omega)];exact yH k hk) (by simp[y7]) (by simp[y8]) (by simp)
  refine aR fun K' hK=> ?_
  simp[hC4];apply hK;clear K' hK;apply aA;refine uX ?_
  refine eP (fun u X ny=>u 0=.yl (nx+9)∧u 1=.ptr (nx+4) 0∧u 2=.ptr (nx+5) 0∧u 3=.ptr (nx+3) 0∧u 5=iV (iO t n d)∧ny=nx+10∧X=H.upd (nx+9) (Lq.o .ready none)) ?_ ?_
  ·have hsd:iO t n d=if d.kind=4∧0<n then(parN t n).toNat else n:=rfl;by_cases hk:d.kind=4
   ·by_cases hp:0<n
    ·have hp2:(0:Int)<n:=(by omega);have hpe:(nth t n).par=((parN t n).toNat:Int):=(by have:=g.par n hp hn;show parN t n=_;omega);rw[if_pos ⟨hk,hp⟩]at hsd;refine aR fun K' hK=> ?_
     simp[hk,hp,hp2,hC4,hC5];apply hK;clear K' hK;refine aU (by simp) ?_
     have hxX:=hx.wild (H.upd (nx+9) (Lq.o .ready none)) fun k hk=>(by rw[Hp.upd_ne _ _ (by omega)];exact hH k hk);rcases hxX with rfl | ⟨q,rfl,hq,hG | ⟨hG,_⟩⟩
     ·skip;refine aQ fun K' hK=> ?_
      simp(maxSteps:=1000000) [hC3,hC4,hWH,w9,hn,hpe];apply hK;clear K' hK;with_reducible refine bP ?_
      rw[hsd];exact⟨by simp,by simp,by simp,by simp,by simp,by simp,rfl⟩
     ·have q9:¬q=nx+9:=(by omega);rw[Hp.upd_ne _ _ q9]at hG;refine aQ fun K' hK=> ?_
      simp(maxSteps:=1000000) [hC3,hC4,hWH,w9,hn,hpe,hG,q9];apply hK;clear K' hK;with_reducible refine bP ?_
      rw[hsd];exact⟨by simp,by simp,by simp,by simp,by simp,by simp,rfl⟩
     ·exact hG.elim
    ·have hp2:¬(0:Int)<n:=(by omega);rw[if_neg (fun h=>hp h.2)]at hsd;refine aR fun K' hK=> ?_
     simp[hk,hp,hp2,hC4,hC5];apply hK;clear K' hK;refine aVk (by simp) ?_;refine bP ?_
     rw[hsd];exact⟨by simp,by simp,by simp,by simp,by simp,by simp,rfl⟩
   ·rw[if_neg (fun h=>hk h.1)]at hsd;refine aR fun K' hK=> ?_
    simp[hk,hC5];apply hK;clear K' hK;refine aVk (by simp) ?_;refine bP ?_
    rw[hsd];exact⟨by simp,by simp,by simp,by simp,by simp,by simp,rfl⟩
  generalize iO t n d=m at*;rintro u X ny ⟨u0,u1,u2,u3,u5,rfl,rfl⟩;refine dJ (aB ?_)
  refine bI (fun u X ny=>u 0=.yl (nx+9)∧u 1=.ptr (nx+4) 0∧u 2=.ptr (nx+5) 0∧u 3=.ptr (nx+3) 0∧nx+9<ny∧(∀k,k<nx+7→X k=H k)∧X (nx+9)=some (Lq.o .ready none)∧∃a o:Int,u 5=iV a∧-1≤a∧a<t.length∧-1≤o∧X (nx+7)=some (.var 3 [iV (Q5 o)])∧X (nx+8)=some (.var 4 [bV (decide (0≤o))])∧nP (fM root L t d v) (sJ t d.name m) (-1)=nP (fM root L t d v) (sJ t d.name a) o) (fun s _ _=>match s 5 with | .v (.int _ n)=>(n+1).toNat | _=>0) ?_ ?_
  ·exact⟨u0,u1,u2,u3,by omega,fun k hk=>by rw[Hp.upd_ne _ _ (by omega)],by simp,m,-1,u5,by omega,by omega,by omega,by simp[hB6,Q5],by simp[hB7],rfl⟩
  clear u0 u1 u2 u3 u5;rintro u X ny-⟨u0,u1,u2,u3,hny,hX,hXZ,a,o,u5,ha1,ha2,ho,hX7,hX8,hlast⟩;have hX3:X (nx+3)=some (.var 78 [.ptr W 0]):=(hX _ (by omega)).trans hC3;have hX5:X (nx+5)=some (.var 35 d.cells):=(hX _ (by omega)).trans hC5;have hXW:X W=some (.var 80 (jJ root L x)):=(hX W (by omega)).trans hWH;have hxX:kJ False X nx x t:=hx.wild X fun k hk=>(hX k (by omega)).trans (hH k hk);have hsx:=hxX.see;rcases Int.lt_or_le a 0 with hneg | hpos
  ·have:a= -1:=(by omega);subst this;have e:nP (fM root L t d v) (sJ t d.name (-1)) o=o:=rfl;rw[e]at hlast;apply aA;refine aR fun K' hK=> ?_
   simp[u5];apply hK;clear K' hK;refine aY (by simp) ?_;apply bG
   refine aI (aH ?_);refine ak (iD (.inl rfl) hXZ ?_);rw[hLs];refine ah ?_;exact⟨rfl,by simp[s6],by simp[s7],by omega,fun k hk=>by rw[Hp.upd_ne _ _ (by omega),hX k (by omega)];exact hH k hk,o,ho,by simp[hX7],by simp[hX8],hlast⟩
  obtain⟨j,rfl⟩:∃j:Nat,a=j:=⟨a.toNat,by omega⟩;rcases hxX with rfl | ⟨q,rfl,hq,hG | ⟨hG,_⟩⟩
  ·have hj:j<t.length:=(by omega);have hrs:=rest_step g (b:=d.name) hj;have hup:=Fq g hj;have hpe:(nth t j).par=parN t j:=rfl;have hj0:(0:Int)≤j:=(by omega);have hR:=jI t ht j d.name;by_cases hc:chF t j d.name=none
   ·rw[if_pos hc]at hrs;rw[hrs,wV]at hlast;have hto:dI t j d.name<0∨∃k:Nat,dI t j d.name=k∧k<t.length∧¬(nth t k).par=(j:Int):=by
     rcases BL (b:=d.name) g _ (Nat.lt_succ_self j) hj with h | ⟨k,h1,h2,h3,h4⟩
     ·exact .inl (by omega)
     ·exact .inr ⟨k,h1,h3,fun e=>kQ.1 hc k h3 e h4⟩
    have hafter:∀(s':Sl) (Y:Hp) (ny2:Nat),True:=fun _ _ _=>trivial;clear hafter;generalize dI t j d.name=tw at*;rcases hto with hneg | ⟨k,rfl,hk,hpk⟩
    ·have hneg':¬0≤tw:=(by omega);apply aA;refine aR fun K' hK=> ?_
     simp[u5,hj0];apply hK;clear K' hK;refine aXk (by simp) ?_;apply aB;refine aQ fun K' hK=> ?_
     simp[u2,u3,u5,hX3,hX5,hXW];refine aj hR rfl (Jh hsx) ?_;simp;apply hK;clear K' hK;refine aR fun K' hK=> ?_
     simp[u0,u5,hneg'];refine⟨⟨_,_,_,_,_,_,_,hXZ⟩,hround j o _ _ _ hj hny hX hX7 hX8 hXZ (fun X2 ny2 hny2 hX2 hX27 hX28 hX2Z=> ?_)⟩;simp;apply hK;clear K' hK;refine aVk (by simp) ?_;apply ak
     refine ah ?_;have hX23:X2 (nx+3)=some (.var 78 [.ptr W 0]):=(hX2 _ (by omega)).trans hC3;have hX2W:X2 W=some (.var 80 (jJ root L (rowT Pl.cells t))):=(hX2 W (by omega)).trans hWH;refine aS fun K' hK=> ?_
     simp[u3,u5,hj,hpe,hX23,hX2W];apply hK;clear K' hK;refine ak (ay ?_ ?_)
     ·refine⟨by simp[u0],by simp[u1],by simp[u2],by simp[u3],by omega,hX2,hX2Z,parN t j,_,by simp,hup.2,by omega,?_,hX27,hX28,hlast⟩;split<;>omega
     ·simp[u5];omega
    ·have hk0:(0:Int)≤k:=(by omega);have hki:(k:Int)<t.length:=(by omega);apply aA;refine aR fun K' hK=> ?_
     simp[u5,hj0];apply hK;clear K' hK;refine aXk (by simp) ?_;apply aB;refine aQ fun K' hK=> ?_
     simp[u2,u3,u5,hX3,hX5,hXW];refine aj hR rfl (Jh hsx) ?_;simp;apply hK;clear K' hK;refine aR fun K' hK=> ?_
     simp[u0,u3,u5,hk0,hk,hki,hpk,hX3,hXW];refine⟨⟨_,_,_,_,_,_,_,hXZ⟩,hround j o _ _ _ hj hny hX hX7 hX8 hXZ (fun X2 ny2 hny2 hX2 hX27 hX28 hX2Z=> ?_)⟩;simp;apply hK;clear K' hK;refine aVk (by simp) ?_;apply ak
     refine ah ?_;have hX23:X2 (nx+3)=some (.var 78 [.ptr W 0]):=(hX2 _ (by omega)).trans hC3;have hX2W:X2 W=some (.var 80 (jJ root L (rowT Pl.cells t))):=(hX2 W (by omega)).trans hWH;refine aS fun K' hK=> ?_
     simp[u3,u5,hj,hpe,hX23,hX2W];apply hK;clear K' hK;refine ak (ay ?_ ?_)
     ·refine⟨by simp[u0],by simp[u1],by simp[u2],by simp[u3],by omega,hX2,hX2Z,parN t j,_,by simp,hup.2,by omega,?_,hX27,hX28,hlast⟩;split<;>omega
     ·simp[u5];omega
   ·cases hcs:chF t j d.name with
    | none=>exact(hc hcs).elim
    | some k=>
     rw[if_neg hc]at hrs;rw[hrs]at hlast;obtain⟨hk,hpk,_⟩:=oG hcs;have hpk:(nth t k).par=(j:Int):=hpk;have hres:=DC g hj hcs;rw[hres]at hR;have hk0:(0:Int)≤k:=(by omega);have hki:(k:Int)<t.length:=(by omega);apply aA;refine aR fun K' hK=> ?_
     simp[u5,hj0];apply hK;clear K' hK;refine aXk (by simp) ?_;apply aB;refine aQ fun K' hK=> ?_
     simp[u2,u3,u5,hX3,hX5,hXW];refine aj hR rfl (Jh hsx) ?_;simp;apply hK;clear K' hK;refine aR fun K' hK=> ?_
     simp[u0,u3,u5,hk0,hk,hki,hpk,hX3,hXW];apply hK;clear K' hK;refine aU (by simp) ?_
     apply aJ;refine dQ ?_;refine nS ?_;refine dQ ?_;refine iD (.inr rfl) hXZ ?_;rw[hLs];refine ah ?_;exact⟨rfl,by simp[s6],by simp[s7],by omega,fun k hk=>by rw[Hp.upd_ne _ _ (by omega),hX k (by omega)];exact hH k hk,o,ho,by simp[hX7],by simp[hX8],hlast⟩
  ·have hj:j<t.length:=(by omega);have hrs:=rest_step g (b:=d.name) hj;have hup:=Fq g hj;have hpe:(nth t j).par=parN t j:=rfl;have hj0:(0:Int)≤j:=(by omega);have hR:=jI t ht j d.name;by_cases hc:chF t j d.name=none
   ·rw[if_pos hc]at hrs;rw[hrs,wV]at hlast;have hto:dI t j d.name<0∨∃k:Nat,dI t j d.name=k∧k<t.length∧¬(nth t k).par=(j:Int):=by
     rcases BL (b:=d.name) g _ (Nat.lt_succ_self j) hj with h | ⟨k,h1,h2,h3,h4⟩
     ·exact .inl (by omega)
     ·exact .inr ⟨k,h1,h3,fun e=>kQ.1 hc k h3 e h4⟩
    have hafter:∀(s':Sl) (Y:Hp) (ny2:Nat),True:=fun _ _ _=>trivial;clear hafter;generalize dI t j d.name=tw at*;rcases hto with hneg | ⟨k,rfl,hk,hpk⟩
    ·have hneg':¬0≤tw:=(by omega);apply aA;refine aR fun K' hK=> ?_
     simp[u5,hj0];apply hK;clear K' hK;refine aXk (by simp) ?_;apply aB;refine aQ fun K' hK=> ?_
     simp[u2,u3,u5,hX3,hX5,hXW];refine aj hR rfl (Jh hsx) ?_;simp;apply hK;clear K' hK;refine aR fun K' hK=> ?_
     simp[u0,u5,hneg'];refine⟨⟨_,_,_,_,_,_,_,hXZ⟩,hround j o _ _ _ hj hny hX hX7 hX8 hXZ (fun X2 ny2 hny2 hX2 hX27 hX28 hX2Z=> ?_)⟩;simp;apply hK;clear K' hK;refine aVk (by simp) ?_;apply ak
     refine ah ?_;have hX23:X2 (nx+3)=some (.var 78 [.ptr W 0]):=(hX2 _ (by omega)).trans hC3;have hX2W:X2 W=some (.var 80 (jJ root L (.row q t.length))):=(hX2 W (by omega)).trans hWH;have hG2:X2 q=some (.frz 50 (flat Pl.cells t)):=(by rw[hX2 q (by omega),←hX q (by omega)];exact hG);refine aS fun K' hK=> ?_
     simp[u3,u5,hj,hpe,hX23,hX2W,hG2];apply hK;clear K' hK;refine ak (ay ?_ ?_)
     ·refine⟨by simp[u0],by simp[u1],by simp[u2],by simp[u3],by omega,hX2,hX2Z,parN t j,_,by simp,hup.2,by omega,?_,hX27,hX28,hlast⟩;split<;>omega
     ·simp[u5];omega
    ·have hk0:(0:Int)≤k:=(by omega);have hki:(k:Int)<t.length:=(by omega);apply aA;refine aR fun K' hK=> ?_
     simp[u5,hj0];apply hK;clear K' hK;refine aXk (by simp) ?_;apply aB;refine aQ fun K' hK=> ?_
     simp[u2,u3,u5,hX3,hX5,hXW];refine aj hR rfl (Jh hsx) ?_;simp;apply hK;clear K' hK;refine aR fun K' hK=> ?_
     simp[u0,u3,u5,hk0,hk,hki,hpk,hX3,hXW,hG];refine⟨⟨_,_,_,_,_,_,_,hXZ⟩,hround j o _ _ _ hj hny hX hX7 hX8 hXZ (fun X2 ny2 hny2 hX2 hX27 hX28 hX2Z=> ?_)⟩;simp;apply hK;clear K' hK;refine aVk (by simp) ?_;apply ak
     refine ah ?_;have hX23:X2 (nx+3)=some (.var 78 [.ptr W 0]):=(hX2 _ (by omega)).trans hC3;have hX2W:X2 W=some (.var 80 (jJ root L (.row q t.length))):=(hX2 W (by omega)).trans hWH;have hG2:X2 q=some (.frz 50 (flat Pl.cells t)):=(by rw[hX2 q (by omega),←hX q (by omega)];exact hG);refine aS fun K' hK=> ?_
     simp[u3,u5,hj,hpe,hX23,hX2W,hG2];apply hK;clear K' hK;refine ak (ay ?_ ?_)
     ·refine⟨by simp[u0],by simp[u1],by simp[u2],by simp[u3],by omega,hX2,hX2Z,parN t j,_,by simp,hup.2,by omega,?_,hX27,hX28,hlast⟩;split<;>omega
     ·simp[u5];omega
   ·cases hcs:chF t j d.name with
    | none=>exact(hc hcs).elim
    | some k=>
     rw[if_neg hc]at hrs;rw[hrs]at hlast;obtain⟨hk,hpk,_⟩:=oG hcs;have hpk:(nth t k).par=(j:Int):=hpk;have hres:=DC g hj hcs;rw[hres]at hR;have hk0:(0:Int)≤k:=(by omega);have hki:(k:Int)<t.length:=(by omega);apply aA;refine aR fun K' hK=> ?_
     simp[u5,hj0];apply hK;clear K' hK;refine aXk (by simp) ?_;apply aB;refine aQ fun K' hK=> ?_
     simp[u2,u3,u5,hX3,hX5,hXW];refine aj hR rfl (Jh hsx) ?_;simp;apply hK;clear K' hK;refine aR fun K' hK=> ?_
     simp[u0,u3,u5,hk0,hk,hki,hpk,hX3,hXW,hG];apply hK;clear K' hK;refine aU (by simp) ?_
     apply aJ;refine dQ ?_;refine nS ?_;refine dQ ?_;refine iD (.inr rfl) hXZ ?_;rw[hLs];refine ah ?_;exact⟨rfl,by simp[s6],by simp[s7],by omega,fun k hk=>by rw[Hp.upd_ne _ _ (by omega),hX k (by omega)];exact hH k hk,o,ho,by simp[hX7],by simp[hX8],hlast⟩
  ·exact hG.elim
 rintro u X ny ⟨u6,u7,hny,hX,o,ho,hX7,hX8,hlast⟩;rw[hlast]at hKK;refine aQ fun K' hK=> ?_
 simp(maxSteps:=1000000) [u6,u7,hX7,hX8];apply hK;clear K' hK;apply aG
 simp[au,aF,Post,bC,res1,bF,bg,aP,bf,aW,okT,okA,ok1,rowOf,Tryz.f79];apply hK;clear K' hK;by_cases h0:0≤o
 ·have e:Q5 o=o:=if_pos h0;apply aA;refine aR fun K' hK=> ?_
  simp[h0];apply hK;clear K' hK;refine aYk (by simp) ?_;refine aR fun K' hK=> ?_
  simp[e];apply hK;clear K' hK;apply aG
  simp[au,aF,Post,bC,res1,bF,bg,aP,bf,aW,okT,okA,ok1,rowOf,Tryz.f41];exact hKK X ny (by omega) hX
 ·have:o= -1:=(by omega);subst this;apply aA;refine aR fun K' hK=> ?_
  simp;apply hK;clear K' hK;refine aX (by simp) ?_;apply aA;refine aR fun K' hK=> ?_
  simp;apply hK;clear K' hK;apply aJ
  simp[au,aF,Post,bC,res1,bF,bg,aP,bf,aW,okT,okA,ok1,rowOf,Tryz.f41];exact hKK X ny (by omega) hX
set_option maxRecDepth 100000
set_option maxHeartbeats 4000000
theorem Jf {dr:Bool} {f:FuncId} {cls:Nat} {K:AV→Hp→Nat→Prop} {r:AV} {J:Js} {G:Hp} {nx:Nat} {x:AV} {u:List Pl} {P:Prop} {n:Nat} {e:Dep} (hk:CallsOK Tryz.prog f [rowT Pl.cells u,iV n,.agg e.cells] r J) (hx:kJ P G nx x u) (hu:u≠[]) (h:∀G',(∀k,(∀m,x≠ .row k m)→G' k=G k)→kJ False G' nx x u→K (shiftT nx r) (addJ G' nx J) (nx+J.length)):pV Tryz.prog dr f [x,iV n,.agg e.cells] cls K G nx:=by
 have hT:=hx.tree;have hF:=hx.frz hu;have h2:=h (bU G x) (fun k hk=>Az hk) hF;have e2:argsOf Tryz.prog G [x,iV n,.agg e.cells]=some ([rowT Pl.cells u,iV n,.agg e.cells],bU G x):=by
  rcases hx with rfl | ⟨q,rfl,_,_⟩
  ·rfl
  ·simp only[argsOf,hT];rfl
 exact aN hk (by rw[e2];rfl) (by rw[e2];exact h2)
theorem Ut {root:Man} {L:List Man} {t:List Pl} (hsz:gy root L t) (h12:L.length≤12) (hc:codeV root L t=0) {n:Nat} (hn:n<t.length) {d:Dep} (hd:d.name.size≤1000000) (hdr:Rg.sz d.range) {P:Prop} {G:Hp} {nx W:Nat} {x:AV} {K:AV→Hp→Nat→Prop}
  (hx:kJ P G nx x t) (hW:G W=some (.var 80 (jJ root L x))) (hWn:W<nx)
  (hKK:∀X ny x',nx≤ny→(∀k,k<nx→k≠W→(∀m,x≠ .row k m)→X k=G k)→X W=some (.var 80 (jJ root L x'))→kJ (t.length<(dY root L n d t).1.length) X ny x' (dY root L n d t).1→K (iV (dY root L n d t).2) X ny):LZ Tryz.prog 46 [.ptr W 0,iV n,.agg d.cells] K G nx:=by
 obtain⟨hr,hro,hL,hLo,ht,htv⟩:=id hsz;have g:Good t:=dM.1 (dA.1 hc).2.2;have htl:=g.le;have hune:t≠[]:=List.ne_nil_of_length_pos g.pos;have hG:=oh t ht htv n d hdr;have hTo:=Ba t ht n d;have hV:=Ci L hL.1 d.name;obtain⟨hvz,hvl⟩:=Ar hL h12 d.name;have hvu:=Gt (dA.1 hc).2.1 d.name;have hB:=BP (fP L d.name) hvz hvl hvu d.range hdr;have hVs:∀v,nG (fP L d.name) d.range=some v→v.pre.size≤1000000:=fun v h=>hvz.2 v (ug h).1;have hE:dY root L n d t=(if holdsV t n d=true∧0≤toN t n d then(t,0)else match nG (fP L d.name) d.range with
  | none=>if holdsV t n d=true then(t,0)else(t,180)
  | some v=>if ji root L t n d v<0 then(if holdsV t n d=true then(t,0)else(t,180))else if 40≤t.length then(t,2)else(gY t (ji root L t n d v) d.name v,0):List Pl×Int):=rfl
 have hsp:=fun v=>kZ (root:=root) (L:=L) (t:=t) (n:=n) (d:=d) (v:=v);have hSp:=fun v (h:v.pre.size≤1000000) G nx x K=> @QW root L t hsz g n hn d v hd h G nx W x K;refine BI mixed Tryz.call46 Tryz.func46 rfl (by rw[Tryz.ntmps46];simp) fun hf=> ?_;rw[Tryz.ntmps46];generalize dY root L n d t=es at*;generalize hvs:fP L d.name=vs at*;generalize hbv:nG vs d.range=bo at*;have nW:¬W=nx:=(by omega);have xW:∀m,x≠ .row W m:=hx.rY hW;have hx1:kJ P (G.upd nx (.var 35 d.cells)) (nx+1) x t:=hx.keep (by omega) id fun k hk=>Hp.upd_ne _ _ (by omega);have x35:∀m,x≠ .row nx m:=hx1.rY (t:=35) (cs:=d.cells) (by simp);refine aR fun K' hK=> ?_
 simp;apply hK;clear K' hK;refine aQ fun K' hK=> ?_
 simp[hW,nW];refine Jf hG hx1 hune ?_;rintro G1 hfz hx2;have hW1:G1 W=some (.var 80 (jJ root L x)):=(by rw[hfz W xW,Hp.upd_ne _ _ nW];exact hW);have hd1:G1 nx=some (.var 35 d.cells):=(by rw[hfz nx x35];simp);have hk1:∀k,k<nx→(∀m,x≠ .row k m)→G1 k=G k:=fun k hk hm=>(by rw[hfz k hm,Hp.upd_ne _ _ (by omega)]);have hdone:es=(t,0)→∀X ny,nx+1≤ny→(∀k,k<nx+1→X k=G1 k)→K (iV 0) X ny:=fun e X ny hny hX=>by
  rw[e]at hKK;exact hKK X ny x (by omega) (fun k hk _ hm=>by rw[hX k (by omega)];exact hk1 k hk hm) (by rw[hX W (by omega)];exact hW1) (hx2.keep (by omega) (fun h=>h.elim) fun k hk=>hX k (by omega))
 have hfail:∀c,es=(t,c)→∀X ny,nx+1≤ny→(∀k,k<nx+1→X k=G1 k)→K (iV c) X ny:=fun c e X ny hny hX=>by
  rw[e]at hKK;exact hKK X ny x (by omega) (fun k hk _ hm=>by rw[hX k (by omega)];exact hk1 k hk hm) (by rw[hX W (by omega)];exact hW1) (hx2.keep (by omega) (fun h=>h.elim) fun k hk=>hX k (by omega))
 simp[dG];apply hK;clear K' hK;have hx3:∀X:Hp,(∀k,k<nx+1→X k=G1 k)→kJ False X (nx+1) x t:=fun X hX=>hx2.wild X hX;by_cases h1:holdsV t n d=true∧0≤toN t n d
 ·rw[if_pos h1]at hE;apply aA;refine aQ fun K' hK=> ?_
  simp[h1.1,hW1,hd1];refine aj hTo rfl (Qm hx2.see) ?_;simp[h1.2];apply hK;clear K' hK;refine aX (by simp) ?_;apply aA;refine aR fun K' hK=> ?_
  simp;apply hK;clear K' hK;apply aJ
  simp[au,aF,Post,bC,res1,bF,bg,aP,bf,aW,okT,okA,ok1,rowOf,Tryz.f46];exact hdone hE _ _ (by omega) fun k hk=>rfl
 ·rw[if_neg h1]at hE;apply aA;refine uX ?_
  refine eP (fun s X ny=>s 0=.ptr W 0∧s 1=iV n∧s 5=.ptr nx 0∧s 7=bV (holdsV t n d)∧X=G1∧ny=nx+1) ?_ ?_
  ·cases hb:holdsV t n d with
   | true=>
    have hz:¬0≤toN t n d:=fun h=>h1 ⟨hb,h⟩;refine aQ fun K' hK=> ?_
    simp[hb,hW1,hd1];refine aj hTo rfl (Qm hx2.see) ?_;simp[hz];apply hK;clear K' hK;refine aVk (by simp) ?_;refine bP ?_
    exact⟨by simp,by simp,by simp,by simp[hb],rfl,rfl⟩
   | false=>
    refine aQ fun K' hK=> ?_
    simp(maxSteps:=1000000) [hb];apply hK;clear K' hK;refine aVk (by simp) ?_;refine bP ?_
    exact⟨by simp,by simp,by simp,by simp[hb],rfl,rfl⟩
  generalize holdsV t n d=hb at*;obtain⟨a,hat⟩:∃a:Int,a=(match bo with
   | none=> -1
   | some v=>ji root L t n d v):=⟨_,rfl⟩
  clear hfz;rintro s H ny ⟨s0,s1,s5,s7,rfl,rfl⟩;refine aR fun K' hK=> ?_
  simp;apply hK;clear K' hK;have nW1:¬W=nx+1:=(by omega);have hT0:bM Tryz.prog (H.upd (nx+1) (.row 23 (flat Ver.cells vs))) (.row (nx+1) vs.length)=some (rowT Ver.cells vs):=dU (by simp) jR rfl;with_reducible refine uX ?_
  refine eP (fun s X ny=>s 0=.ptr W 0∧s 5=.ptr nx 0∧s 7=bV hb∧s 8=iV a∧nx+1<ny∧(∀k,k<nx+1→X k=H k)∧∃p,s 9=.ptr p 0∧p<ny∧(∀v,bo=some v→X p=some (.var 23 v.cells))) ?_ ?_
  ·by_cases hv0:vs=[]
   ·subst hv0;have hbn:bo=none:=(by rw[←hbv];rfl);subst hbn;have hat:a= -1:=hat;have hB2:CallsOK Tryz.prog 27 [.v (.slice none 0 0),.agg d.range.cells] (oW none) []:=hB.weak (.cons .nilRow (.cons (.refl _) .nil));refine eY none [] (by decide+kernel) (by decide+kernel) (fun p' hp'=>by cases hp') fun K' hK=> ?_;simp[s0,s5,hW1,hd1];refine aN hV (by first | rfl | (simp;done) | (simp;rfl) | (simp;exact⟨rfl,rfl⟩)) ?_;simp[lS,dG,s5,hd1];refine aN hB2 (by first | rfl | (simp;done) | (simp;rfl) | (simp;exact⟨rfl,rfl⟩)) ?_;simp[oW,dG];apply hK;clear K' hK;refine aR fun K' hK=> ?_
    simp;apply hK;clear K' hK;refine aVk (by simp) ?_;refine bP ?_
    exact⟨by simp[s0],by simp[s5],by simp[s7],by simp[hat],by omega,fun k hk=>by repeat rw[Hp.upd_ne _ _ (by omega)],_,by simp;rfl,by omega,fun v h=>by cases h⟩
   ·have hvR:lS vs=(.row 0 vs.length,[(23,flat Ver.cells vs)]):=(by unfold lS;rw[if_neg hv0]);rw[hvR]at hV;have n1:¬nx=nx+1:=(by omega);refine eY none [] (by decide+kernel) (by decide+kernel) (fun p' hp'=>by cases hp') fun K' hK=> ?_;simp[s0,s5,hW1,hd1];refine aN hV (by first | rfl | (simp;done) | (simp;rfl) | (simp;exact⟨rfl,rfl⟩)) ?_;simp[bH,s5,hd1,n1];refine aN hB (by first | rfl | (simp[hT0];done) | (simp[hT0];rfl) | (simp[hT0];exact⟨rfl,rfl⟩)) ?_;cases bo with
    | none=>
     have hat:a= -1:=hat;simp[oW,dG,hT0];apply hK;clear K' hK;refine aR fun K' hK=> ?_
     simp;apply hK;clear K' hK;refine aVk (by simp) ?_;refine bP ?_
     exact⟨by simp[s0],by simp[s5],by simp[s7],by simp[hat],by omega,fun k hk=>by rw[Hp.upd_ne _ _ (by omega),Hp.upd_ne _ _ (by omega),dP (by omega),Hp.upd_ne _ _ (by omega)],_,by simp;rfl,by omega,fun v h=>by cases h⟩
    | some v=>
     have hat:a=ji root L t n d v:=hat;have hvp:=hVs v rfl;have hsh:∀k,List.map (uH k) v.cells=v.cells:=fun k=>rfl;simp[oW,dG,hT0,hsh];apply hK;clear K' hK;refine fO (fun u Z nz=>u 0=.ptr W 0∧u 1=iV n∧u 5=.ptr nx 0∧u 7=bV hb∧u 10=bV true∧nx+1<nz∧(∀k,k<nx+1→Z k=H k)∧∃p,u 9=.ptr p 0∧p<nz∧Z p=some (.var 23 v.cells)) ?_ ?_
     ·exact⟨by simp[s0],by simp[s1],by simp[s5],by simp[s7],by simp,by omega,fun k hk=>by rw[Hp.upd_ne _ _ (by omega),Hp.upd_ne _ _ (by omega),dP (by omega),Hp.upd_ne _ _ (by omega)],_,by simp;rfl,by omega,by simp⟩
     clear s0 s1 s5 s7 hT0;rintro s X ny ⟨s0,s1,s5,s7,s10,hny,hX,p,s9,hp,hXpv⟩;have hXd:X nx=some (.var 35 d.cells):=(by rw[hX nx (by omega)];exact hd1);refine aR fun K' hK=> ?_
     simp[s10];apply hK;clear K' hK;refine aU (by simp) ?_;refine aR fun K' hK=> ?_
     simp[s0,s1,s5,s9,hXpv,hXd];refine dN (hSp v hvp X ny x _ ((hx3 X hX).keep (by omega) id fun k hk=>rfl) ((hX W (by omega)).trans hW1) (by omega) ?_);rintro Y ny2 hny2 hY;simp[yB];apply hK;clear K' hK;with_reducible refine bP ?_
     exact⟨by simp[s0],by simp[s5],by simp[s7],by simp[hat],by omega,fun k hk=>by rw[hY k (by omega)];exact hX k hk,p,by simp[s9],by omega,fun v2 h=>by injection h with h;subst h;rw[hY p (by omega)];exact hXpv⟩
  clear s0 s1 s5 s7 hT0;rintro s X ny ⟨s0,s5,s7,s8,hny,hX,p,s9,hp,hXp⟩;have hXW:X W=some (.var 80 (jJ root L x)):=(hX W (by omega)).trans hW1;have hxX:=hx3 X hX;have hlen:=hxX.len;by_cases ha:0≤a
  ·cases bo with
   | none=>
    have hat:a= -1:=hat;omega
   | some v=>
    have hat:a=ji root L t n d v:=hat;have hE:es=if ji root L t n d v<0 then(if hb=true then(t,0)else(t,180))else if 40≤t.length then(t,2)else(gY t (ji root L t n d v) d.name v,0):=hE;rw[←hat,if_neg (by omega)]at hE;have hspv:=hsp v;rw[←hat]at hspv;have hXpv:=hXp v rfl;have hvp:=hVs v rfl;have hXd:X nx=some (.var 35 d.cells):=(by rw[hX nx (by omega)];exact hd1);apply aB
    by_cases h40:40≤t.length
    ·rw[if_pos h40]at hE;have h40':(40:Int)≤t.length:=(by omega);refine aR fun K' hK=> ?_
     simp[s0,s8,ha,hXW,hlen,h40,h40'];apply hK;clear K' hK;refine aU (by simp) ?_;apply aA;refine aR fun K' hK=> ?_
     simp;apply hK;clear K' hK;apply aJ
     simp[au,aF,Post,bC,res1,bF,bg,aP,bf,aW,okT,okA,ok1,rowOf,Tryz.f46];exact hfail 2 hE X ny (by omega) hX
    ·rw[if_neg h40]at hE;have h40':¬(40:Int)≤t.length:=(by omega);obtain⟨q,hpw,hpo,rfl⟩:=hspv.resolve_left (by omega);have hAc:=(mD hpo).1;have hA:=Au t ht q d.name v (by omega) (by omega);rw[vX hAc,hAc]at hA;have nWy:¬W=ny:=(by omega);have hal:t.length<(gY t q d.name v).length:=(by rw[eU];omega);refine aR fun K' hK=> ?_
     simp[s0,s8,ha,hXW,hlen,h40,h40'];apply hK;clear K' hK;refine aV (by simp) ?_;apply aA;refine aR fun K' hK=> ?_
     simp[s8,ha];apply hK;clear K' hK;refine aX (by simp) ?_;apply aA;refine aQ fun K' hK=> ?_
     simp[s0,s5,s8,s9,hXW,hXd,hXpv];refine tH hA ⟨rfl,VZ _ _⟩ (Uu hxX.see) ?_;simp[bH];apply hK;clear K' hK;have nyW:¬ny=W:=(by omega);apply aA;refine aR fun K' hK=> ?_
     simp[s0,hXW,nWy,nyW];apply hK;clear K' hK;apply aA;refine aR fun K' hK=> ?_
     simp;apply hK;clear K' hK;apply aJ
     simp[au,aF,Post,bC,res1,bF,bg,aP,bf,aW,okT,okA,ok1,rowOf,Tryz.f46];rw[hE]at hKK;refine hKK _ _ (.row ny (gY t q d.name v).length) (by omega) (fun k hk hkW hm=> ?_) ?_ ?_
     ·rw[Hp.upd_ne _ _ hkW,Hp.upd_ne _ _ (by omega),hX k (by omega)];exact hk1 k hk hm
     ·simp;rfl
     ·exact .inr ⟨ny,rfl,by omega,.inr ⟨hal,by simp[nyW]⟩⟩
  ·have hE:es=if hb=true then(t,0)else(t,180):=by
    cases bo with
    | none=>exact hE
    | some v=>
     have hat:a=ji root L t n d v:=hat;have hE:es=if ji root L t n d v<0 then(if hb=true then(t,0)else(t,180))else if 40≤t.length then(t,2)else(gY t (ji root L t n d v) d.name v,0):=hE;rw[←hat,if_pos (by omega)]at hE;exact hE
   apply aB;refine aR fun K' hK=> ?_
   simp[s0,s8,ha];apply hK;clear K' hK;refine aV (by simp) ?_;apply aA;refine aR fun K' hK=> ?_
   simp[s8,ha];apply hK;clear K' hK;refine aY (by simp) ?_;apply aA;refine aR fun K' hK=> ?_
   simp[s7];apply hK;clear K' hK;cases hb with
   | true=>
    rw[if_pos rfl]at hE;refine aX (by simp) ?_;apply aA;refine aR fun K' hK=> ?_
    simp;apply hK;clear K' hK;apply aJ
    simp[au,aF,Post,bC,res1,bF,bg,aP,bf,aW,okT,okA,ok1,rowOf,Tryz.f46];exact hdone hE X ny (by omega) hX
   | false=>
    rw[if_neg (by simp)]at hE;refine aYk (by simp) ?_;apply ak
    refine ah ?_;refine aR fun K' hK=> ?_
    simp;apply hK;clear K' hK;apply aG
    simp[au,aF,Post,bC,res1,bF,bg,aP,bf,aW,okT,okA,ok1,rowOf,Tryz.f46];exact hfail 180 hE X ny (by omega) hX
theorem su (root:Man) (L:List Man) (t:List Pl) (hsz:gy root L t) (n:Int) (d:Dep) (v:Ver) (hd:d.name.size≤1000000) (hv:v.pre.size≤1000000):CallsOK Tryz.prog 15 [.agg root.cells,rowT Man.cells L,rowT Pl.cells t,iV n,.agg d.cells,.agg v.cells] (iV (qO root L t n d v)) []:=by
 have hWr:=lF root L t hsz;have hfm:=lX root L t;have hR:qO root L t n d v=if codeV root L t=0∧0≤n∧n<t.length then ji root L t n.toNat d v else-1:=rfl;refine aO mixed Tryz.call15 Tryz.func15 rfl (by rw[Tryz.ntmps15];simp) ?_ rfl;rw[Tryz.ntmps15];refine aR fun K' hK=> ?_
 simp;apply hK;clear K' hK;apply aA
 refine eP (fun s X ny=>s 1=rowT Man.cells L∧s 2=rowT Pl.cells t∧s 3=iV n∧s 6=.ptr 0 0∧s 10=.ptr 1 0∧s 11=.ptr 2 0∧s 14=iV (codeV root L t)∧X 0=some (.var 27 root.cells)∧X 1=some (.var 35 d.cells)∧X 2=some (.var 23 v.cells)∧2<ny) ?_ ?_
 ·rcases hfm with⟨hw0,hfm⟩ | hfm
  ·rw[hfm]at hWr;refine aS fun K' hK=> ?_
   simp;refine aN hWr (by first | rfl | (simp;done) | (simp;rfl) | (simp;exact⟨rfl,rfl⟩)) ?_;simp[dG];apply hK;clear K' hK;with_reducible refine bP ?_
   exact⟨by simp,by simp,by simp,by simp,by simp,by simp,by simp,by simp,by simp,by simp,by omega⟩
  ·rw[hfm]at hWr;refine aS fun K' hK=> ?_
   simp;refine aN hWr (by first | rfl | (simp;done) | (simp;rfl) | (simp;exact⟨rfl,rfl⟩)) ?_;simp[bH];apply hK;clear K' hK;with_reducible refine bP ?_
   exact⟨by simp,by simp,by simp,by simp,by simp,by simp,by simp,by simp,by simp,by simp,by omega⟩
 clear hWr hfm;rintro s X ny ⟨s1,s2,s3,s6,s10,s11,s14,g0,g1,g2,hny⟩;by_cases hc:codeV root L t=0
 ·rw[hc]at s14;by_cases h0:0≤n
  ·by_cases h1:n<t.length
   ·rw[if_pos ⟨hc,h0,h1⟩]at hR;obtain⟨m,rfl⟩:∃m:Nat,n=m:=⟨n.toNat,by omega⟩;have g:Good t:=dM.1 (dA.1 hc).2.2;rw[Int.toNat_natCast]at hR;rw[hR];have h2:¬(m:Int)<0:=(by omega);have h3:¬(t.length:Int)≤m:=(by omega);have h4:¬t.length≤m:=(by omega);have n0:¬0=ny:=(by omega);have n1:¬1=ny:=(by omega);have n2:¬2=ny:=(by omega);apply aA;refine aR fun K' hK=> ?_
    simp[s2,s3,s14,h2,h3,h4];apply hK;clear K' hK;refine aYk (by simp) ?_;refine aR fun K' hK=> ?_
    simp[s1,s2,s6,g0];apply hK;clear K' hK;refine aR fun K' hK=> ?_
    simp[s3,s10,s11,g1,g2,n1,n2];refine dN (QW (x:=rowT Pl.cells t) hsz g (show m<t.length by omega) hd hv (.inl rfl) (by simp;rfl) (by omega) ?_);rintro Y nz hnz hY;simp[yB];apply hK;clear K' hK;apply aG
    simp[au,aF,Post,bC,res1,bF,bg,aP,bf,aW,okT,okA,ok1,rowOf,Tryz.f15]
   ·rw[if_neg (fun h=>h1 h.2.2)]at hR;rw[hR];have h2:¬n<0:=(by omega);have h3:(t.length:Int)≤n:=(by omega);apply aA;refine aR fun K' hK=> ?_
    simp[s2,s3,s14,h2,h3];apply hK;clear K' hK;refine aX (by simp) ?_;apply aA;refine aR fun K' hK=> ?_
    simp;apply hK;clear K' hK;apply aJ
    simp[au,aF,Post,bC,res1,bF,bg,aP,bf,aW,okT,okA,ok1,rowOf,Tryz.f15]
  ·rw[if_neg (fun h=>h0 h.2.1)]at hR;rw[hR];have h2:n<0:=(by omega);apply aA;refine aR fun K' hK=> ?_
   simp[s2,s3,s14,h2];apply hK;clear K' hK;refine aX (by simp) ?_;apply aA;refine aR fun K' hK=> ?_
   simp;apply hK;clear K' hK;apply aJ
   simp[au,aF,Post,bC,res1,bF,bg,aP,bf,aW,okT,okA,ok1,rowOf,Tryz.f15]
 ·rw[if_neg (fun h=>hc h.1)]at hR;rw[hR];apply aA;refine aR fun K' hK=> ?_
  simp[s14,hc];apply hK;clear K' hK;refine aX (by simp) ?_;apply aA;refine aR fun K' hK=> ?_
  simp;apply hK;clear K' hK;apply aJ
  simp[au,aF,Post,bC,res1,bF,bg,aP,bf,aW,okT,okA,ok1,rowOf,Tryz.f15]
set_option maxRecDepth 100000
set_option maxHeartbeats 4000000
theorem qC (root:Man) (L:List Man) (t:List Pl) (hsz:gy root L t) (h12:dO L=0→L.length≤12) (htl:t.length≤1000):CallsOK Tryz.prog 19 [.agg root.cells,rowT Man.cells L,rowT Pl.cells t] (ig root L t).1 (ig root L t).2:=by
 obtain⟨hr,hro,hL,hLo,ht,htv⟩:=id hsz;have hW:=lF root L t hsz;have hfm:=lX root L t;refine aO mixed Tryz.call19 Tryz.func19 rfl (by rw[Tryz.ntmps19];simp) ?_ ?_
 ·rw[Tryz.ntmps19];have hG1:∀u:List Pl,growS root L t=(u,0)→ig root L t=(.tup [rowT Pl.cells u,iV 0],[]):=fun u e=>(by unfold ig;rw[e,if_pos rfl]);have hG2:∀(u:List Pl) c,growS root L t=(u,c)→c≠0→ig root L t=(.tup [.row 0 0,iV c],[(50,[])]):=fun u c e h=>(by unfold ig;rw[e,if_neg h]);have hGe:growS root L t=if codeV root L t=0 then jg root L 201 0 t else([],codeV root L t):=rfl;generalize ig root L t=go at*;generalize growS root L t=gs at*;refine aR fun K' hK=> ?_
  simp;apply hK;clear K' hK;apply aA
  refine eP (fun s G nx=>s 1=rowT Man.cells L∧s 2=rowT Pl.cells t∧s 3=.ptr 0 0∧G 0=some (.var 27 root.cells)∧s 9=iV (codeV root L t)∧0<nx) ?_ ?_
  ·rcases hfm with⟨hw0,hfm⟩ | hfm
   ·rw[hfm]at hW;refine aS fun K' hK=> ?_
    simp;refine aN hW (by first | rfl | (simp;done) | (simp;rfl) | (simp;exact⟨rfl,rfl⟩)) ?_;simp[dG];apply hK;clear K' hK;with_reducible refine bP ?_
    exact⟨by simp,by simp,by simp,by simp,by simp,by omega⟩
   ·rw[hfm]at hW;refine aS fun K' hK=> ?_
    simp;refine aN hW (by first | rfl | (simp;done) | (simp;rfl) | (simp;exact⟨rfl,rfl⟩)) ?_;simp[bH];apply hK;clear K' hK;with_reducible refine bP ?_
    exact⟨by simp,by simp,by simp,by simp,by simp,by omega⟩
  clear hW hfm;rintro s G nx ⟨s1,s2,s3,g0,s9,hnx⟩;by_cases hc:codeV root L t=0
  ·have h12:=h12 (dA.1 hc).2.1;rw[if_pos hc]at hGe;rw[hc]at s9;have g:Good t:=dM.1 (dA.1 hc).2.2;have b1:t.length≤9223372036854775807:=(by omega);have b2:t.length*64≤140737488355328:=(by omega);have hfl:(flat Pl.cells t).length=t.length*6:=fE;have n0:¬0=nx:=(by omega);have n1:¬0=nx+1:=(by omega);have n2:¬0=nx+1+1:=(by omega);apply aA;refine aR fun K' hK=> ?_
   simp[s9];apply hK;clear K' hK;refine aYk (by simp) ?_
   (repeat with_reducible refine lU ?_);refine eY (some 3) [] (by decide+kernel) (by decide+kernel) (fun p' hp'=>by cases hp';exact⟨0,0,s3,by simp⟩) fun K' hK=> ?_;simp[s1,s2,s3,g0,n0,n1,b1,b2,hfl];apply hK;clear K' hK;apply aA;refine aR fun K' hK=> ?_
   simp;apply hK;clear K' hK;apply aB
   refine bI (fun s G nx=>∃p x,s 10=.ptr p 0∧G p=some (.var 80 (jJ root L x))∧p<nx∧∃(n k:Nat) (u:List Pl),s 11=iV n∧n+k=201∧n≤200∧kJ (n<u.length) G nx x u∧gs=jg root L k n u∧codeV root L u=0∧gy root L u) (fun s _ _=>match s 11 with | .v (.int _ n)=>201-n.toNat | _=>0) ?_ ?_
   ·exact⟨nx+2,.row (nx+1) t.length,by simp,by simp;rfl,by omega,0,201,t,by simp,by omega,by omega,.inr ⟨nx+1,rfl,by omega,.inr ⟨g.pos,by simp⟩⟩,hGe,hc,hsz⟩
   clear hGe hc g s1 s2 s3 g0 s9 hnx b1 b2 hfl n0 n1 n2 ht htv;rintro s G nx-⟨p,x,s10,gp,hp,n,k,u,s11,hnk,hn200,hx,hgs,hc,hsz⟩;have g:Good u:=dM.1 (dA.1 hc).2.2;have hul:=g.le;obtain⟨k,rfl⟩:∃k',k=k'+1:=⟨k-1,by omega⟩;unfold jg at hgs;have hlen:=hx.len;apply aA;refine aR fun K' hK=> ?_
   simp[s10,s11,gp,hlen];apply hK;clear K' hK;refine aC fun A B hA hB=> ?_
   simp;refine⟨fun hn2=>hA ?_,fun hn2=>hB ?_⟩<;>clear hA hB A B<;>(try simp at hn2)<;>(try with_reducible refine aK ?_)
   ·rw[if_pos hn2]at hgs;have hEz:=jZ (t:=u) (n:=n) hr hL;have hEl:=rH (t:=u) (n:=n) hr hL;have hEd:=fun K'=>KG (n:=n) (K:=K') hsz g hx gp hp;generalize hsm:(manVal root L u n).isSome=sm at*;generalize hEe:edgesV root L u n=E at*;have xp:=hx.rY gp;apply aB;refine aR fun K' hK=> ?_
    simp[s10,s11];refine dN (hEd _ ?_);rintro Y ny r hny hYk hYx hr1 hr2 hYr;have yp:Y p=some (.var 80 (jJ root L x)):=(by rw[hYk p hp xp];exact gp);simp[yB];apply hK;clear K' hK;cases sm with
    | false=>
     rw[if_neg (by simp)]at hgs;rw[hG2 _ _ hgs (by omega)];apply aA;refine aR fun K' hK=> ?_
     simp;apply hK;clear K' hK;refine aX (by simp) ?_;apply aA;refine aR fun K' hK=> ?_
     simp;apply hK;clear K' hK;apply aJ
     simp[au,aF,Post,bC,res1,bF,bg,aP,bf,aW,okT,okA,ok1,rowOf,Tryz.f19]
    | true=>
     rw[if_pos rfl]at hgs;apply aA;refine aR fun K' hK=> ?_
     simp;apply hK;clear K' hK;refine aYk (by simp) ?_;refine aR fun K' hK=> ?_
     simp[hYr];apply hK;clear K' hK;refine dJ (aB ?_)
     refine bI (fun s G nz=>s 10=.ptr p 0∧p<nz∧s 11=iV n∧s 51=.row r E.length∧s 52=iV E.length∧G r=some (.row 35 (flat Dep.cells E))∧r<nz∧¬r=p∧∃(j:Nat) (x:AV) (u':List Pl),s 53=iV j∧j≤E.length∧G p=some (.var 80 (jJ root L x))∧kJ (n+1<u'.length) G nz x u'∧eu root L n E u=eu root L n (E.drop j) u'∧codeV root L u'=0∧gy root L u'∧n<u'.length) (fun s _ _=>match s 53 with | .v (.int _ n)=>E.length-n.toNat | _=>0) ?_ ?_
     ·exact⟨by simp[s10],by omega,by simp[s11],by simp,by simp,hYr,hr2,by omega,0,x,u,by simp,by omega,yp,hYx.keep (by omega) (fun h=>h.elim) (fun k hk=>rfl),by simp,hc,hsz,hn2⟩
     have o11:=s11;clear s10 s11 gp hx hlen hYk hYx yp xp hEd hc hsz g hul hn2;rintro s G nz-⟨s10,hpz,s11,s51,s52,gr,hrz,hrp,j,x,u',s53,hj,gp,hx,hes,hc,hsz,hnu⟩;have hw:IntKind.i64.wrap (↑j+1)=((j+1:Nat):Int):=dw (by omega);have g:Good u':=dM.1 (dA.1 hc).2.2;have hul:=g.le;refine aR fun K' hK=> ?_
     simp[s52,s53];apply hK;clear K' hK;refine aC fun A B hA hB=> ?_
     simp;refine⟨fun hj2=>hA ?_,fun hj2=>hB ?_⟩<;>clear hA hB A B<;>(try simp at hj2)<;>(try with_reducible refine aK ?_)
     ·obtain⟨hdr,hdn⟩:=hEz _ (bK hj2);have hdc:=drop_cons hj2;have hstep:eu root L n (nth E j::E.drop (j+1)) u'=if(dY root L n (nth E j) u').2=0 then eu root L n (E.drop (j+1)) (dY root L n (nth E j) u').1 else([],(dY root L n (nth E j) u').2):=rfl;rw[hdc,hstep]at hes;clear hstep;have hxt:=fun h=>rV (root:=root) (L:=L) (t:=u') (n:=n) (d:=nth E j) hc hnu h;have hsx:=fun h=>ER (root:=root) (L:=L) (t:=u') (n:=n) (d:=nth E j) hsz hul hdn h;have hED:=fun X ny K' hx'=> @Ut root L u' hsz h12 hc n hnu (nth E j) hdn hdr (n+1<u'.length) X ny p x K' hx';generalize hgd:nth E j=d at*;have xp:=hx.rY gp;have xr:=hx.QZ gr;have np:¬p=nz:=(by omega);have nr:¬r=nz:=(by omega);apply aB;refine aR fun K' hK=> ?_
      simp[s51,s53,gr,hj2,hgd];apply hK;clear K' hK;refine aR fun K' hK=> ?_
      simp[s10,s11];refine dN (hED _ _ _ (hx.keep (by omega) id fun k hk=>by rw[Hp.upd_ne _ _ (by omega),Hp.upd_ne _ _ (by omega)]) (by rw[Hp.upd_ne _ _ np,Hp.upd_ne _ _ np];exact gp) (by omega) ?_);rintro Y ny x' hny hYk hYp hYx;have yr:Y r=some (.row 35 (flat Dep.cells E)):=(by rw[hYk r (by omega) hrp xr,Hp.upd_ne _ _ nr,Hp.upd_ne _ _ nr];exact gr);simp[yB];apply hK;clear K' hK;by_cases c0:(dY root L n d u').2=0
      ·have e1:=(hxt c0).1;have e2:=hsx c0;rw[if_pos c0]at hes;have hl1:=e1.len;have e1c:=e1.code;clear hxt hsx e1;generalize (dY root L n d u').1=X at*;refine aR fun K' hK=> ?_
       simp[c0];apply hK;clear K' hK;refine aVk (by simp) ?_;apply ak
       refine ah ?_;refine aS fun K' hK=> ?_
       simp[s53,hw];apply hK;clear K' hK;refine ak (ay ?_ ?_)
       ·exact⟨by simp[s10],by omega,by simp[s11],by simp[s51],by simp[s52],yr,by omega,hrp,j+1,x',X,by simp[hw],by omega,hYp,hYx.keep (by omega) (fun h=>by omega) (fun k hk=>rfl),hes,e1c,e2,by omega⟩
       ·simp[s53,hw];omega
      ·rw[if_neg c0]at hes;rw[hes,if_neg c0]at hgs;have hgo:=hG2 _ _ hgs c0;generalize (dY root L n d u').2=c at*;rw[hgo];refine aR fun K' hK=> ?_
       simp[c0];apply hK;clear K' hK;refine aU (by simp) ?_;apply aA;refine aR fun K' hK=> ?_
       simp;apply hK;clear K' hK;apply aJ
       simp[au,aF,Post,bC,res1,bF,bg,aP,bf,aW,okT,okA,ok1,rowOf,Tryz.f19]
     ·skip;apply bG
      refine aI (aH ?_);have hje:j=E.length:=(by omega);subst hje;rw[List.drop_length]at hes;have hes:eu root L n E u=(u',0):=hes;rw[hes,if_pos rfl]at hgs;have hw2:IntKind.i64.wrap (↑n+1)=((n+1:Nat):Int):=dw (by omega);apply ak
      refine ah ?_;refine aS fun K' hK=> ?_
      simp[s11,hw2];apply hK;clear K' hK;refine ak (ay ?_ ?_)
      ·exact⟨p,x,by simp[s10],gp,hpz,n+1,k,u',by simp[hw2],by omega,by omega,hx,hgs,hc,hsz⟩
      ·simp[o11,s11,hw2];omega
   ·rw[if_neg (by omega)]at hgs;rw[hG1 _ hgs];apply bG
    refine aI (aH ?_);refine aR fun K' hK=> ?_
    simp[s10,gp];apply hK;clear K' hK;rcases hx with rfl | ⟨q,rfl,hq,h | ⟨h,_⟩⟩
    ·skip;apply aG
     simp[au,aF,Post,bC,res1,bF,bg,aP,bf,aW,okT,okA,ok1,rowOf,Tryz.f19];all_goals first | exact⟨rfl,rfl⟩ | rfl
    ·have hfl:(flat Pl.cells u).length=u.length*6:=fE;apply aG
     simp[au,aF,Post,bC,res1,bF,bg,aP,bf,aW,okT,okA,ok1,rowOf,Tryz.f19,h,c50,hfl];all_goals first | exact⟨rfl,rfl⟩ | rfl
    ·omega
  ·rw[if_neg hc]at hGe;rw[hG2 _ _ hGe hc];apply aA;refine aR fun K' hK=> ?_
   simp[s9,hc];apply hK;clear K' hK;refine aX (by simp) ?_;apply aA;refine aR fun K' hK=> ?_
   simp[s9];apply hK;clear K' hK;apply aJ
   simp[au,aF,Post,bC,res1,bF,bg,aP,bf,aW,okT,okA,ok1,rowOf,Tryz.f19]
 ·unfold ig;split<;>rfl
theorem lK (root:Man) (L:List Man) (hr:Man.sz root) (hro:Man.okS root) (hL:Idx.sz L) (hLo:∀m∈L,Man.okS m) (h12:dO L=0→L.length≤12):CallsOK Tryz.prog 21 [.agg root.cells,rowT Man.cells L] (ig root L [rootP]).1 (ig root L [rootP]).2:=by
 have hsz:gy root L [rootP]:=⟨hr,hro,hL,hLo,IQ (by decide+kernel),fun p hp=>by simp at hp;subst hp;decide⟩;have hG:=qC root L [rootP] hsz h12 (by simp);have hO:ig root L [rootP]=if(growS root L [rootP]).2=0 then(.tup [rowT Pl.cells (growS root L [rootP]).1,iV 0],[])else(.tup [.row 0 0,iV (growS root L [rootP]).2],[(50,[])]):=rfl;refine aO mixed Tryz.call21 Tryz.func21 rfl (by rw[Tryz.ntmps21];simp) ?_ ?_
 ·rw[Tryz.ntmps21];generalize growS root L [rootP]=gs at*;generalize ig root L [rootP]=go at*;refine aR fun K' hK=> ?_
  simp;apply hK;clear K' hK;by_cases h:gs.2=0
  ·rw[if_pos h]at hO;subst hO;refine aQ fun K' hK=> ?_
   simp;refine aN Ac (by first | rfl | (simp;done) | (simp;rfl) | (simp;exact⟨rfl,rfl⟩)) ?_;simp[bH];refine aN hG (by first | rfl | (simp;done) | (simp;rfl) | (simp;exact⟨rfl,rfl⟩)) ?_;simp[dG];apply hK;clear K' hK;apply aG
   simp[au,aF,Post,bC,res1,bF,bg,aP,bf,aW,okT,okA,ok1,rowOf,Tryz.f21];all_goals first | exact⟨rfl,rfl⟩ | rfl
  ·rw[if_neg h]at hO;subst hO;refine aQ fun K' hK=> ?_
   simp;refine aN Ac (by first | rfl | (simp;done) | (simp;rfl) | (simp;exact⟨rfl,rfl⟩)) ?_;simp[bH];refine aN hG (by first | rfl | (simp;done) | (simp;rfl) | (simp;exact⟨rfl,rfl⟩)) ?_;simp[bH];apply hK;clear K' hK;apply aG
   simp[au,aF,Post,bC,res1,bF,bg,aP,bf,aW,okT,okA,ok1,rowOf,Tryz.f21]
 ·unfold ig;split<;>rfl
set_option maxRecDepth 100000
set_option maxHeartbeats 400000
def uA:Bs:=⟨#[97]⟩
def uB:Bs:=⟨#[98]⟩
def uV (k:Int):Ver:=⟨k,0,0,⟨#[]⟩⟩
def VX:Rg:=[[]]
def Kt (k:Int):Rg:=[[⟨1,uV k⟩]]
def dh:Man:=⟨⟨#[]⟩,uV 0,[⟨1,uA,VX⟩,⟨1,uB,Kt 2⟩],[]⟩
def nsA:Man:=⟨uA,uV 1,[⟨1,uB,Kt 1⟩],[]⟩
def nsX:List Man:=[nsA,⟨uB,uV 1,[],[]⟩,⟨uB,uV 2,[],[]⟩]
def Qd:List Man:=[nsA]
def Dz:List Pl:=[rootP,⟨0,uA,uV 1⟩]
def Kz:List Pl:=[rootP,⟨0,uA,uV 1⟩,⟨0,uB,uV 2⟩]
def nsT:List Pl:=[rootP,⟨0,uA,uV 1⟩,⟨0,uB,uV 2⟩,⟨1,uB,uV 1⟩]
instance leB_dec (a b:Bs):Decidable (leB' a b):=by unfold leB';infer_instance
theorem Ti {ds:List Dep} {b:Bool} {S:List Bs} {E:List Dep} (h1:bW (byM b ds)=S) (h2:S.Pairwise leB') (h3:(S.map fun n=>fB [] (findD (byM b ds) n))=E):ofF ds [] b=E:=by
 unfold ofF;rw[h1,JC h2,h3]
theorem Vr:ofF dh.deps dh.rules true=dh.deps:=Ti (S:=[uA,uB]) (by decide+kernel) (by decide+kernel) (by decide+kernel)
theorem VN:ofF nsA.deps dh.rules false=nsA.deps:=Ti (S:=[uB]) (by decide+kernel) (by decide+kernel) (by decide+kernel)
theorem Vq:ofF [] dh.rules false=[]:=Ti (S:=[]) (by decide+kernel) (by decide+kernel) (by decide+kernel)
theorem wM {root:Man} {L:List Man} {t:List Pl} {n:Nat} {m:Man} {E:List Dep} (h:manVal root L t n=some m) (ho:ofF m.deps root.rules (decide ((n:Int)=0))=E):edgesV root L t n=E:=by
 unfold edgesV;rw[h];exact ho
def nsE:List (List Dep):=[dh.deps,nsA.deps,[],[]]
theorem I9 {L:List Man} {t:List Pl} (h:manVal dh L t (0:Nat)=some dh):edgesV dh L t 0=dh.deps:=wM h Vr
theorem OL {L:List Man} {t:List Pl} {n:Nat} (h:manVal dh L t n=some nsA) (hn:decide ((n:Int)=0)=false):edgesV dh L t n=nsA.deps:=wM h (by rw[hn];exact VN)
theorem Ro {L:List Man} {t:List Pl} {n:Nat} {v:Ver} (h:manVal dh L t n=some ⟨uB,v,[],[]⟩) (hn:decide ((n:Int)=0)=false):edgesV dh L t n=[]:=wM h (by rw[hn];exact Vq)
def AtG (root:Man) (L:List Man) (t:List Pl) (Es:List (List Dep)):Prop:=∀n,n<t.length→edgesV root L t n=nth Es n
theorem VT:AtG dh nsX [rootP] nsE:=fun n hn=>by
 obtain rfl:n=0:=(by simp at hn;omega);exact I9 (by decide+kernel)
theorem TU:AtG dh Qd [rootP] nsE:=fun n hn=>by
 obtain rfl:n=0:=(by simp at hn;omega);exact I9 (by decide+kernel)
theorem TS:AtG dh nsX Dz nsE:=fun n hn=>by
 have hn:n<2:=hn;obtain rfl | rfl:n=0∨n=1:=by omega
 ·exact I9 (by decide+kernel)
 ·exact OL (by decide+kernel) (by decide)
theorem Vf:AtG dh Qd Dz nsE:=fun n hn=>by
 have hn:n<2:=hn;obtain rfl | rfl:n=0∨n=1:=by omega
 ·exact I9 (by decide+kernel)
 ·exact OL (by decide+kernel) (by decide)
theorem U7:AtG dh nsX Kz nsE:=fun n hn=>by
 have hn:n<3:=hn;obtain rfl | rfl | rfl:n=0∨n=1∨n=2:=by omega
 ·exact I9 (by decide+kernel)
 ·exact OL (by decide+kernel) (by decide)
 ·exact Ro (v:=uV 2) (by decide+kernel) (by decide)
theorem VW:AtG dh nsX nsT nsE:=fun n hn=>by
 have hn:n<4:=hn;obtain rfl | rfl | rfl | rfl:n=0∨n=1∨n=2∨n=3:=by omega
 ·exact I9 (by decide+kernel)
 ·exact OL (by decide+kernel) (by decide)
 ·exact Ro (v:=uV 2) (by decide+kernel) (by decide)
 ·exact Ro (v:=uV 1) (by decide+kernel) (by decide)
def OT (Es:List (List Dep)) (t:List Pl) (n:Nat) (d:Dep) (v:Ver):Int:=nP (fun p=>decide (cZ t p d.name v=0)&&(List.range t.length).all fun n=>(nth Es n).all fun x=> !holdsV t n x || holdsV (gY t p d.name v) n x) (Kv t n d) (-1)
theorem FX {root:Man} {L:List Man} {t:List Pl} {Es:List (List Dep)} (h:AtG root L t Es) (n:Nat) (d:Dep) (v:Ver):ji root L t n d v=OT Es t n d v:=by
 unfold ji OT;congr 1;funext p;unfold fM mV;congr 1;rw[Bool.eq_iff_iff,List.all_eq_true,List.all_eq_true];constructor
 ·intro hh x hx;have:=hh x hx;rw[h x (List.mem_range.1 hx)]at this;exact this
 ·intro hh x hx;have:=hh x hx;rw[←h x (List.mem_range.1 hx)]at this;exact this
def OC (Es:List (List Dep)) (L:List Man) (n:Nat) (d:Dep) (t:List Pl):List Pl×Int:=
 if holdsV t n d=true∧0≤toN t n d then(t,0)else
 match nG (fP L d.name) d.range with
 | none=>if holdsV t n d=true then(t,0)else(t,180)
 | some v=>if OT Es t n d v<0 then(if holdsV t n d=true then(t,0)else(t,180))else if 40≤t.length then(t,2)else(gY t (OT Es t n d v) d.name v,0)
theorem MR {root:Man} {L:List Man} {t:List Pl} {Es:List (List Dep)} (h:AtG root L t Es) (n:Nat) (d:Dep):dY root L n d t=OC Es L n d t:=by
 unfold dY OC;simp only[FX h];rfl
theorem ou {root:Man} {L:List Man} {t u:List Pl} {Es:List (List Dep)} {n:Nat} {d:Dep} {l:List Dep} {r:List Pl×Int} (h:AtG root L t Es) (h1:OC Es L n d t=(u,0)) (h2:eu root L n l u=r):eu root L n (d::l) t=r:=by
 unfold eu;rw[MR h,h1,if_pos rfl,h2]
theorem Qs {root:Man} {L:List Man} {t u:List Pl} {Es:List (List Dep)} {n:Nat} {d:Dep} {l:List Dep} (h:AtG root L t Es) (h1:OC Es L n d t=(u,180)):eu root L n (d::l) t=([],180):=by
 unfold eu;rw[MR h,h1,if_neg (by simp)]
theorem xR {root:Man} {L:List Man} {t u:List Pl} {E:List Dep} {k n:Nat} {r:List Pl×Int} (hn:n<t.length) (hm:(manVal root L t n).isSome=true) (hE:edgesV root L t n=E) (h1:eu root L n E t=(u,0)) (h2:jg root L k (n+1) u=r):jg root L (k+1) n t=r:=by
 unfold jg;rw[if_pos hn,if_pos hm,hE,h1,if_pos rfl,h2]
theorem Sj {root:Man} {L:List Man} {t:List Pl} {E:List Dep} {k n:Nat} (hn:n<t.length) (hm:(manVal root L t n).isSome=true) (hE:edgesV root L t n=E) (h1:eu root L n E t=([],180)):jg root L (k+1) n t=([],180):=by
 unfold jg;rw[if_pos hn,if_pos hm,hE,h1,if_neg (by simp)]
theorem grow_end {root:Man} {L:List Man} {t:List Pl} {k n:Nat} (hn:¬n<t.length):jg root L (k+1) n t=(t,0):=by
 unfold jg;rw[if_neg hn]
theorem qG:codeV dh nsX [rootP]=0∧codeV dh Qd [rootP]=0∧codeV dh nsX Dz=0∧codeV dh nsX Kz=0:=by decide+kernel
theorem qY:xU dh=false∧KC nsX=false∧KC Qd=false∧bigT Dz=false∧bigT Kz=false∧bigT [rootP]=false:=by decide+kernel
theorem MN:jg dh nsX 200 1 Kz=(nsT,0):=by
 refine xR (k:=199) (E:=nsA.deps) (u:=nsT) (by decide) (by decide+kernel) (U7 1 (by decide)) ?_ ?_
 ·exact ou U7 (u:=nsT) (by decide+kernel) rfl
 refine xR (k:=198) (E:=[]) (u:=nsT) (by decide) (by decide+kernel) (VW 2 (by decide)) rfl ?_;refine xR (k:=197) (E:=[]) (u:=nsT) (by decide) (by decide+kernel) (VW 3 (by decide)) rfl ?_;exact grow_end (k:=196) (by decide)
theorem OM:growS dh nsX [rootP]=(nsT,0):=by
 unfold growS;rw[if_pos qG.1];refine xR (k:=200) (E:=dh.deps) (u:=Kz) (by decide) (by decide+kernel) (VT 0 (by decide)) ?_ MN;refine ou VT (u:=Dz) (by decide+kernel) ?_;exact ou TS (u:=Kz) (by decide+kernel) rfl
theorem Tv:growS dh nsX Dz=(nsT,0):=by
 unfold growS;rw[if_pos qG.2.2.1];refine xR (k:=200) (E:=dh.deps) (u:=Kz) (by decide) (by decide+kernel) (TS 0 (by decide)) ?_ MN;refine ou TS (u:=Dz) (by decide+kernel) ?_;exact ou TS (u:=Kz) (by decide+kernel) rfl
theorem TB:growS dh Qd [rootP]=([],180):=by
 unfold growS;rw[if_pos qG.2.1];refine Sj (k:=200) (E:=dh.deps) (by decide) (by decide+kernel) (TU 0 (by decide)) ?_;refine ou TU (u:=Dz) (by decide+kernel) ?_;exact Qs Vf (u:=Dz) (by decide+kernel)
theorem GZ:qO dh nsX Kz 1 ⟨1,uB,Kt 1⟩ (uV 1)=1∧qO dh nsX Dz 1 ⟨1,uB,Kt 1⟩ (uV 1)=0:=by
 unfold qO;rw[if_pos ⟨qG.2.2.2,by decide,by decide⟩,if_pos ⟨qG.2.2.1,by decide,by decide⟩,FX U7,FX TS];decide+kernel
set_option maxRecDepth 100000
set_option maxHeartbeats 4000000
theorem CallsOK.UN {P:Program} [Gl P] {f:FuncId} {xs:List AV} {r:AV} {J J':Js} (h:CallsOK P f xs r J) (hlen:J.length=J'.length)
  (hJ:∀(i:Nat) e cs,J[i]? =some (e,cs)→∃ds,J'[i]? =some (e,ds)∧WkTL cs ds):CallsOK P f xs r J':=by
 have e1:∀ {i:Nat} {o:AObj},ofJ J i=some o→∃e cs ds,J[i]? =some (e,cs)∧o=.row e cs∧J'[i]? =some (e,ds)∧ofJ J' i=some (.row e ds)∧WkTL cs ds:=by
  intro i o ho;unfold ofJ at ho⊢;cases hi:J[i]? with
  | none=>rw[hi]at ho;cases ho
  | some p=>
   rw[hi]at ho;simp only[Option.map_some,Option.some.injEq]at ho;obtain⟨ds,h1,h2⟩:=hJ i p.1 p.2 hi;exact⟨p.1,p.2,ds,rfl,ho.symm,h1,by rw[h1];rfl,h2⟩
 have e2:∀ {i:Nat} {o:AObj},ofJ J' i=some o→∃e cs ds,o=.row e ds∧ofJ J i=some (.row e cs)∧WkTL cs ds:=by
  intro i o ho;cases hi:J[i]? with
  | none=>
   have:J'[i]? =none:=(by rw[List.getElem?_eq_none_iff]at hi⊢;omega);unfold ofJ at ho;rw[this]at ho;cases ho
  | some p=>
   obtain⟨ds,h1,h2⟩:=hJ i p.1 p.2 hi;unfold ofJ at ho;rw[h1]at ho;simp only[Option.map_some,Option.some.injEq]at ho;exact⟨p.1,p.2,ds,ho.symm,by unfold ofJ;rw[hi];rfl,h2⟩
 refine⟨h.1,h.2.1,fun w us F hF hΓ hx=>(h.2.2 w us F hF hΓ hx).mono fun en w' hh=> ?_⟩;obtain⟨u,E',rfl,hv,hR,hEF,hb,hge⟩:=hh;refine⟨u,E',rfl,hv,⟨hR.inj,fun i b hi=> ?_,hR.lt,fun i o hi ha=> ?_,fun i=> ?_,fun b=> ?_,hR.nF,hR.Flt,hR.good⟩,hEF,hb,hge⟩
 ·obtain⟨o,h1,h2⟩:=hR.dom i b hi;obtain⟨e,cs,ds,_,rfl,_,h3,_⟩:=e1 h1;exact⟨_,h3,rfl⟩
 ·obtain⟨e,cs,ds,rfl,h1,hw⟩:=e2 hi;obtain⟨hl,hat⟩:=hw.at;rcases hR.obj i _ h1 rfl with⟨b,hb,us',q1,q2,q3⟩ | ⟨hN,e',he⟩
  ·refine .inl ⟨b,hb,us',q1,by omega,fun j c x hc hx=> ?_⟩;have hi:j<cs.length:=(by rw[hl];exact(List.getElem?_eq_some_iff.1 hc).1);exact hat j _ c (List.getElem?_eq_getElem hi) hc _ _ _ (q3 j _ x (List.getElem?_eq_getElem hi) hx)
  ·injection he with he1 he2;subst he2;cases ds with
   | nil=>exact .inr ⟨hN,e,rfl⟩
   | cons _ _=>simp at hl
 ·rw[hR.K i];exact⟨fun⟨o,h⟩=>by obtain⟨e,cs,ds,_,_,_,h3,_⟩:=e1 h;exact⟨_,h3⟩,fun⟨o,h⟩=>by obtain⟨e,cs,ds,_,h3,_⟩:=e2 h;exact⟨_,h3⟩⟩
 ·rw[hR.W b];exact⟨fun⟨i,o,h1,h2,h3⟩=>by obtain⟨e,cs,ds,_,rfl,_,h4,_⟩:=e1 h2;exact⟨i,_,h1,h4,rfl⟩,fun⟨i,o,h1,h2,h3⟩=>by obtain⟨e,cs,ds,rfl,h4,_⟩:=e2 h2;exact⟨i,_,h1,h4,rfl⟩⟩
def freeR:Rg:=[[]]
def v1:Ver:=⟨1,0,0,⟨#[]⟩⟩
def v2:Ver:=⟨2,0,0,⟨#[]⟩⟩
def twoR:Rg:=[[⟨5,v2⟩]]
set_option maxRecDepth 100000
set_option maxHeartbeats 4000000
theorem LP:CallsOK Tryz.prog 78 [] (.agg [.row 0 1]) [(71,flat Alt.cells VX)]:=by
 refine CallsOK.VP (cs:=[.v (.slice none 0 0)]) ?_ (.cons .nil .nil);refine aO mixed Tryz.call78 Tryz.func78 rfl (by rw[Tryz.ntmps78];simp) ?_ rfl;rw[Tryz.ntmps78];refine aR fun K' hK=> ?_
 simp;apply hK;clear K' hK;refine aR fun K' hK=> ?_
 simp;apply hK;clear K' hK;apply aG
 simp[au,aF,Post,bC,res1,bF,bg,aP,bf,aW,okT,okA,ok1,rowOf,Tryz.f78]
theorem nY (k:Int):CallsOK Tryz.prog 40 [iV k] (.agg [.row 0 1]) [(71,flat Alt.cells (Kt k))]:=by
 refine aO mixed Tryz.call40 Tryz.func40 rfl (by rw[Tryz.ntmps40];simp) ?_ rfl;rw[Tryz.ntmps40];refine aR fun K' hK=> ?_
 simp;apply hK;clear K' hK;refine aR fun K' hK=> ?_
 simp;apply hK;clear K' hK;apply aG
 simp[au,aF,Post,bC,res1,bF,bg,aP,bf,aW,okT,okA,ok1,rowOf,Tryz.f40];rfl
def OQ:List AV:=[sV ⟨#[]⟩,iV 0,iV 0,iV 0,sV ⟨#[]⟩,rowT Dep.cells dh.deps,.v (.slice none 0 0)]
def nsB (i:Nat):List AV:=[sV ⟨#[]⟩,iV 0,iV 0,iV 0,sV ⟨#[]⟩,.row i 2,.v (.slice none 0 0)]
theorem MX {P:Program} [Gl P]:Wk P (.agg OQ) (.agg dh.cells):=
 .agg (.cons (.refl _) (.cons (.refl _) (.cons (.refl _) (.cons (.refl _) (.cons (.refl _) (.cons (.refl _) (.cons .nilRow .nil)))))))
theorem NG:flat Man.cells nsX=[sV uA,iV 1,iV 0,iV 0,sV ⟨#[]⟩,.sl 1 [iV 1,sV uB,.sl 1 [.sl 1 [iV 1,iV 1,iV 0,iV 0,sV ⟨#[]⟩]]],.sl 0 [],sV uB,iV 1,iV 0,iV 0,sV ⟨#[]⟩,.sl 0 [],.sl 0 [],sV uB,iV 2,iV 0,iV 0,sV ⟨#[]⟩,.sl 0 [],.sl 0 []]:=rfl
theorem Jo:CallsOK Tryz.prog 39 [] (.tup [.agg (nsB 0),.row 1 3]) [(35,flat Dep.cells dh.deps),(27,flat Man.cells nsX)]:=by
 refine CallsOK.UN (J:=[(35,flat Dep.cells dh.deps),(27,[sV uA,iV 1,iV 0,iV 0,sV ⟨#[]⟩,.sl 1 [iV 1,sV uB,.sl 1 [.sl 1 [iV 1,iV 1,iV 0,iV 0,sV ⟨#[]⟩]]],.v (.slice none 0 0),sV uB,iV 1,iV 0,iV 0,sV ⟨#[]⟩,.v (.slice none 0 0),.v (.slice none 0 0),sV uB,iV 2,iV 0,iV 0,sV ⟨#[]⟩,.v (.slice none 0 0),.v (.slice none 0 0)])]) ?_ rfl ?_
 ·refine aO mixed Tryz.call39 Tryz.func39 rfl (by rw[Tryz.ntmps39];simp) ?_ rfl;rw[Tryz.ntmps39];refine aR fun K' hK=> ?_
  simp;apply hK;clear K' hK;refine aR fun K' hK=> ?_
  simp;apply hK;clear K' hK;refine aR fun K' hK=> ?_
  simp;refine aN LP (by simp) ?_;simp[bH];refine aN (nY 2) (by simp) ?_;simp[bH];apply hK;clear K' hK;refine eY (some 0) [3,2] (by decide+kernel) (by decide+kernel) (fun p' hp'=>by cases hp';exact⟨0,0,by simp,by simp[mY]⟩) fun K' hK=> ?_;simp;refine aN (nY 1) (by simp) ?_;simp[bH];apply hK;clear K' hK;apply aG
  simp[au,aF,Post,bC,res1,bF,bg,aP,bf,aW,okT,okA,ok1,rowOf,Tryz.f39];exact⟨[5,9],⟨rfl,rfl⟩,by simp[nsB],rfl⟩
 ·intro i e cs h
  match i with
  | 0=>simp at h;obtain⟨rfl,rfl⟩:=h;exact⟨_,rfl,WkTL.refl _⟩
  | 1=>
   simp at h;obtain⟨rfl,rfl⟩:=h;rw[NG];exact⟨_,rfl,.cons (.refl _) (.cons (.refl _) (.cons (.refl _) (.cons (.refl _) (.cons (.refl _) (.cons (.refl _) (.cons .nil (.cons (.refl _) (.cons (.refl _) (.cons (.refl _) (.cons (.refl _) (.cons (.refl _) (.cons .nil (.cons .nil (.cons (.refl _) (.cons (.refl _) (.cons (.refl _) (.cons (.refl _) (.cons (.refl _) (.cons .nil (.cons .nil .nil))))))))))))))))))))⟩
  | i+2=>simp at h
@[simp high] theorem pK {α:Type} {c:α→List AV} {l:List α} (k:Nat) (x:Value):shiftT k (.tup [rowT c l,.v x])=.tup [rowT c l,.v x]:=rfl
end Go.Proofs.YtmmbgjmigmchbaaGreatDoorAbs
