/- NestGrows. -/
import Derived.Test.YtmmbgjmigmchbaaGreatDoorNg9
import Derived.Test.YtmmbgjmigmchbaaGreatDoorNg8
namespace Go.Proofs.YtmmbgjmigmchbaaGreatDoorAbs
set_option linter.unusedSimpArgs false
set_option linter.unusedVariables false
open Go Go.RowKit Go.Proofs
set_option maxRecDepth 100000
set_option maxHeartbeats 4000000
def qg (root:Man) (L:List Man) (t:List Pl):AV×Js:=if(growS root L t).2=0 then(.tup [.row 0 (growS root L t).1.length,iV 0],[(50,flat Pl.cells (growS root L t).1)])else(.tup [.row 0 0,iV (growS root L t).2],[(50,[])])
theorem Jd (t:List Pl):(flat Pl.cells t).all nH=true:=by
 rw[List.all_eq_true];intro a ha;obtain⟨p,_,hp⟩:=List.mem_flatMap.1 ha;simp[Pl.cells]at hp;rcases hp with rfl | rfl | rfl | rfl | rfl | rfl<;>rfl
theorem yL (root:Man) (L:List Man) (t:List Pl) (hsz:fP root L t) (h12:dK L=0→L.length≤12) (htl:t.length≤1000):CallsOK Tryz.prog 19 [.agg root.cells,rowT Man.cells L,rowT Pl.cells t] (qg root L t).1 (qg root L t).2:=by
 obtain⟨hr,hro,hL,hLo,ht,htv⟩:=id hsz;have hW:=sF root L t hsz;have hfm:=pV root L t;refine Pq mixed Tryz.call19 Tryz.func19 rfl (by rw[Tryz.ntmps19];simp) ?_ ?_
 ·rw[Tryz.ntmps19];have hG1:∀u:List Pl,growS root L t=(u,0)→qg root L t=(.tup [.row 0 u.length,iV 0],[(50,flat Pl.cells u)]):=fun u e=>(by unfold qg;rw[e,if_pos rfl]);have hG2:∀(u:List Pl) c,growS root L t=(u,c)→c≠0→qg root L t=(.tup [.row 0 0,iV c],[(50,[])]):=fun u c e h=>(by unfold qg;rw[e,if_neg h]);have hGe:growS root L t=if codeV root L t=0 then jB root L 201 0 t else([],codeV root L t):=rfl;generalize qg root L t=go at*;generalize growS root L t=gs at*;refine aR fun K' hK=> ?_
  simp;apply hK;clear K' hK;apply aA
  refine fC (fun s G nx=>s 1=rowT Man.cells L∧s 2=rowT Pl.cells t∧s 3=.ptr 0 0∧G 0=some (.var 27 root.cells)∧s 9=iV (codeV root L t)∧0<nx) ?_ ?_
  ·rcases hfm with⟨hw0,hfm⟩ | hfm
   ·rw[hfm]at hW;refine aS fun K' hK=> ?_
    simp;refine aO hW (by first | rfl | (simp;done) | (simp;rfl) | (simp;exact⟨rfl,rfl⟩)) ?_;simp[dO];apply hK;clear K' hK;with_reducible refine bP ?_
    exact⟨by simp,by simp,by simp,by simp,by simp,by omega⟩
   ·rw[hfm]at hW;refine aS fun K' hK=> ?_
    simp;refine aO hW (by first | rfl | (simp;done) | (simp;rfl) | (simp;exact⟨rfl,rfl⟩)) ?_;simp[bK];apply hK;clear K' hK;with_reducible refine bP ?_
    exact⟨by simp,by simp,by simp,by simp,by simp,by omega⟩
  clear hW hfm;rintro s G nx ⟨s1,s2,s3,g0,s9,hnx⟩;by_cases hc:codeV root L t=0
  ·have h12:=h12 (dJ.1 hc).2.1;rw[if_pos hc]at hGe;rw[hc]at s9;have g:Good t:=dZ.1 (dJ.1 hc).2.2;have b1:t.length≤9223372036854775807:=(by omega);have b2:t.length*64≤140737488355328:=(by omega);have hfl:(flat Pl.cells t).length=t.length*6:=eY;have n0:¬0=nx:=(by omega);have n1:¬0=nx+1:=(by omega);have n2:¬0=nx+1+1:=(by omega);apply aA;refine aR fun K' hK=> ?_
   simp[s9];apply hK;clear K' hK;refine aYk (by simp) ?_
   (repeat with_reducible refine jR ?_);refine fH (some 3) [] (by decide+kernel) (by decide+kernel) (fun p' hp'=>by cases hp';exact⟨0,0,s3,by simp⟩) fun K' hK=> ?_;simp[s1,s2,s3,g0,n0,n1,b1,b2,hfl];apply hK;clear K' hK;apply aA;refine aR fun K' hK=> ?_
   simp;apply hK;clear K' hK;apply aB
   refine bH (fun s G nx=>∃p x,s 10=.ptr p 0∧G p=some (.var 80 (jd root L x))∧p<nx∧∃(n k:Nat) (u:List Pl),s 11=iV n∧n+k=201∧n≤200∧jZ (n<u.length) G nx x u∧Tz x=false∧gs=jB root L k n u∧codeV root L u=0∧fP root L u) (fun s _ _=>match s 11 with | .v (.int _ n)=>201-n.toNat | _=>0) ?_ ?_
   ·exact⟨nx+2,.row (nx+1) t.length,by simp,by simp;rfl,by omega,0,201,t,by simp,by omega,by omega,.inr ⟨nx+1,rfl,by omega,.inr ⟨g.pos,by simp⟩⟩,rfl,hGe,hc,hsz⟩
   clear hGe hc g s1 s2 s3 g0 s9 hnx b1 b2 hfl n0 n1 n2 ht htv;rintro s G nx-⟨p,x,s10,gp,hp,n,k,u,s11,hnk,hn200,hx,hsl,hgs,hc,hsz⟩;have g:Good u:=dZ.1 (dJ.1 hc).2.2;have hul:=g.le;obtain⟨k,rfl⟩:∃k',k=k'+1:=⟨k-1,by omega⟩;unfold jB at hgs;have hlen:=hx.len;apply aA;refine aR fun K' hK=> ?_
   simp[s10,s11,gp,hlen];apply hK;clear K' hK;refine aC fun A B hA hB=> ?_
   simp;refine⟨fun hn2=>hA ?_,fun hn2=>hB ?_⟩<;>clear hA hB A B<;>(try simp at hn2)<;>(try with_reducible refine aK ?_)
   ·rw[if_pos hn2]at hgs;have hEz:=jW (t:=u) (n:=n) hr hL;have hEl:=nC (t:=u) (n:=n) hr hL;have hEd:=fun K'=>Ee (n:=n) (K:=K') hsz g hx gp hp;generalize hsm:(manVal root L u n).isSome=sm at*;generalize hEe:edgesV root L u n=E at*;have xp:=hx.mX gp;apply aB;refine aR fun K' hK=> ?_
    simp[s10,s11];refine dH (hEd _ ?_);rintro Y ny r hny hYk hYx hr1 hr2 hYr;have yp:Y p=some (.var 80 (jd root L x)):=(by rw[hYk p hp xp];exact gp);simp[uq];apply hK;clear K' hK;cases sm with
    | false=>
     rw[if_neg (by simp)]at hgs;rw[hG2 _ _ hgs (by omega)];apply aA;refine aR fun K' hK=> ?_
     simp;apply hK;clear K' hK;refine aX (by simp) ?_;apply aA;refine aR fun K' hK=> ?_
     simp;apply hK;clear K' hK;apply aJ
     refine .inl ?_;simp[au,aG,Post,aW,res1,bF,bC,aP,bg,bf,okT,okA,ok1,rowOf,Tryz.f19]
    | true=>
     rw[if_pos rfl]at hgs;apply aA;refine aR fun K' hK=> ?_
     simp;apply hK;clear K' hK;refine aYk (by simp) ?_;refine aR fun K' hK=> ?_
     simp[hYr];apply hK;clear K' hK;refine dL (aB ?_)
     refine bH (fun s G nz=>s 10=.ptr p 0∧p<nz∧s 11=iV n∧s 51=.row r E.length∧s 52=iV E.length∧G r=some (.row 35 (flat Dep.cells E))∧r<nz∧¬r=p∧∃(j:Nat) (x:AV) (u':List Pl),s 53=iV j∧j≤E.length∧G p=some (.var 80 (jd root L x))∧jZ (n+1<u'.length) G nz x u'∧Tz x=false∧eG root L n E u=eG root L n (E.drop j) u'∧codeV root L u'=0∧fP root L u'∧n<u'.length) (fun s _ _=>match s 53 with | .v (.int _ n)=>E.length-n.toNat | _=>0) ?_ ?_
     ·exact⟨by simp[s10],by omega,by simp[s11],by simp,by simp,hYr,hr2,by omega,0,x,u,by simp,by omega,yp,hYx.keep (by omega) (fun h=>h.elim) (fun k hk=>rfl),hsl,by simp,hc,hsz,hn2⟩
     have o11:=s11;clear s10 s11 gp hx hsl hlen hYk hYx yp xp hEd hc hsz g hul hn2;rintro s G nz-⟨s10,hpz,s11,s51,s52,gr,hrz,hrp,j,x,u',s53,hj,gp,hx,hsl,hes,hc,hsz,hnu⟩;have hw:IntKind.i64.wrap (↑j+1)=((j+1:Nat):Int):=dh (by omega);have g:Good u':=dZ.1 (dJ.1 hc).2.2;have hul:=g.le;refine aR fun K' hK=> ?_
     simp[s52,s53];apply hK;clear K' hK;refine aC fun A B hA hB=> ?_
     simp;refine⟨fun hj2=>hA ?_,fun hj2=>hB ?_⟩<;>clear hA hB A B<;>(try simp at hj2)<;>(try with_reducible refine aK ?_)
     ·obtain⟨hdr,hdn⟩:=hEz _ (bM hj2);have hdc:=drop_cons hj2;have hstep:eG root L n (nth E j::E.drop (j+1)) u'=if(dY root L n (nth E j) u').2=0 then eG root L n (E.drop (j+1)) (dY root L n (nth E j) u').1 else([],(dY root L n (nth E j) u').2):=rfl;rw[hdc,hstep]at hes;clear hstep;have hxt:=fun h=>ru (root:=root) (L:=L) (t:=u') (n:=n) (d:=nth E j) hc hnu h;have hsx:=fun h=>zN (root:=root) (L:=L) (t:=u') (n:=n) (d:=nth E j) hsz hul hdn h;have hED:=fun X ny K' hx'=> @Qs root L u' hsz h12 hc n hnu (nth E j) hdn hdr (n+1<u'.length) X ny p x K' hx';generalize hgd:nth E j=d at*;have xp:=hx.mX gp;have xr:=hx.NM gr;have np:¬p=nz:=(by omega);have nr:¬r=nz:=(by omega);apply aB;refine aR fun K' hK=> ?_
      simp[s51,s53,gr,hj2,hgd];apply hK;clear K' hK;refine aR fun K' hK=> ?_
      simp[s10,s11];refine dH (hED _ _ _ (hx.keep (by omega) id fun k hk=>by rw[Hp.upd_ne _ _ (by omega),Hp.upd_ne _ _ (by omega)]) (by rw[Hp.upd_ne _ _ np,Hp.upd_ne _ _ np];exact gp) (by omega) ?_);rintro Y ny x' hny hYk hYp hYx hYs;have hYs:Tz x'=false:=by
       cases h:Tz x' with
       | false=>rfl
       | true=>rw[hYs h]at hsl;cases hsl
      have yr:Y r=some (.row 35 (flat Dep.cells E)):=(by rw[hYk r (by omega) hrp xr,Hp.upd_ne _ _ nr,Hp.upd_ne _ _ nr];exact gr);simp[uq];apply hK;clear K' hK;by_cases c0:(dY root L n d u').2=0
      ·have e1:=(hxt c0).1;have e2:=hsx c0;rw[if_pos c0]at hes;have hl1:=e1.len;have e1c:=e1.code;clear hxt hsx e1;generalize (dY root L n d u').1=X at*;refine aR fun K' hK=> ?_
       simp[c0];apply hK;clear K' hK;refine aVk (by simp) ?_;apply aj
       refine ah ?_;refine aS fun K' hK=> ?_
       simp[s53,hw];apply hK;clear K' hK;refine aj (ay ?_ ?_)
       ·exact⟨by simp[s10],by omega,by simp[s11],by simp[s51],by simp[s52],yr,by omega,hrp,j+1,x',X,by simp[hw],by omega,hYp,hYx.keep (by omega) (fun h=>by omega) (fun k hk=>rfl),hYs,hes,e1c,e2,by omega⟩
       ·simp[s53,hw];omega
      ·rw[if_neg c0]at hes;rw[hes,if_neg c0]at hgs;have hgo:=hG2 _ _ hgs c0;generalize (dY root L n d u').2=c at*;rw[hgo];refine aR fun K' hK=> ?_
       simp[c0];apply hK;clear K' hK;refine aU (by simp) ?_;apply aA;refine aR fun K' hK=> ?_
       simp;apply hK;clear K' hK;apply aJ
       refine .inl ?_;simp[au,aG,Post,aW,res1,bF,bC,aP,bg,bf,okT,okA,ok1,rowOf,Tryz.f19]
     ·skip;apply bG
      refine aI (aH ?_);have hje:j=E.length:=(by omega);subst hje;rw[List.drop_length]at hes;have hes:eG root L n E u=(u',0):=hes;rw[hes,if_pos rfl]at hgs;have hw2:IntKind.i64.wrap (↑n+1)=((n+1:Nat):Int):=dh (by omega);apply aj
      refine ah ?_;refine aS fun K' hK=> ?_
      simp[s11,hw2];apply hK;clear K' hK;refine aj (ay ?_ ?_)
      ·exact⟨p,x,by simp[s10],gp,hpz,n+1,k,u',by simp[hw2],by omega,by omega,hx,hsl,hgs,hc,hsz⟩
      ·simp[o11,s11,hw2];omega
   ·rw[if_neg (by omega)]at hgs;rw[hG1 _ hgs];apply bG
    refine aI (aH ?_);refine aR fun K' hK=> ?_
    simp[s10,gp];apply hK;clear K' hK;rcases hx with rfl | ⟨q,rfl,hq,hxx⟩
    ·cases hsl
    (repeat with_reducible refine jR ?_);(first | with_reducible refine aJ ?_ | with_reducible refine aF ?_ | with_reducible refine aj ?_);refine .inr ⟨u.length,[iV 0],50,flat Pl.cells u,rfl,rfl,.inr rfl,q,by simp[aW,res1],?_,Jd u,rfl⟩;rcases hxx with h | ⟨_,h⟩
    ·exact .inr (by simp[h])
    ·exact .inl (by simp[h])
  ·rw[if_neg hc]at hGe;rw[hG2 _ _ hGe hc];apply aA;refine aR fun K' hK=> ?_
   simp[s9,hc];apply hK;clear K' hK;refine aX (by simp) ?_;apply aA;refine aR fun K' hK=> ?_
   simp[s9];apply hK;clear K' hK;apply aJ
   refine .inl ?_;simp[au,aG,Post,aW,res1,bF,bC,aP,bg,bf,okT,okA,ok1,rowOf,Tryz.f19]
 ·unfold qg;split<;>rfl
theorem FT (root:Man) (L:List Man) (hr:Man.sz root) (hro:Man.okS root) (hL:Idx.sz L) (hLo:∀m∈L,Man.okS m) (h12:dK L=0→L.length≤12):CallsOK Tryz.prog 21 [.agg root.cells,rowT Man.cells L] (qg root L [rootP]).1 (qg root L [rootP]).2:=by
 have hsz:fP root L [rootP]:=⟨hr,hro,hL,hLo,uI (by decide+kernel),fun p hp=>by simp at hp;subst hp;decide⟩;have hG:=yL root L [rootP] hsz h12 (by simp);have hO:qg root L [rootP]=if(growS root L [rootP]).2=0 then(.tup [.row 0 (growS root L [rootP]).1.length,iV 0],[(50,flat Pl.cells (growS root L [rootP]).1)])else(.tup [.row 0 0,iV (growS root L [rootP]).2],[(50,[])]):=rfl;refine aN mixed Tryz.call21 Tryz.func21 rfl (by rw[Tryz.ntmps21];simp) ?_ ?_
 ·rw[Tryz.ntmps21];generalize growS root L [rootP]=gs at*;generalize qg root L [rootP]=go at*;refine aR fun K' hK=> ?_
  simp;apply hK;clear K' hK;by_cases h:gs.2=0
  ·rw[if_pos h]at hO;subst hO;refine aQ fun K' hK=> ?_
   simp;refine aO uJ (by first | rfl | (simp;done) | (simp;rfl) | (simp;exact⟨rfl,rfl⟩)) ?_;simp[bK];refine aO hG (by first | rfl | (simp;done) | (simp;rfl) | (simp;exact⟨rfl,rfl⟩)) ?_;simp[bK];apply hK;clear K' hK;apply aF
   simp[au,aG,Post,aW,res1,bF,bC,aP,bg,bf,okT,okA,ok1,rowOf,Tryz.f21]
  ·rw[if_neg h]at hO;subst hO;refine aQ fun K' hK=> ?_
   simp;refine aO uJ (by first | rfl | (simp;done) | (simp;rfl) | (simp;exact⟨rfl,rfl⟩)) ?_;simp[bK];refine aO hG (by first | rfl | (simp;done) | (simp;rfl) | (simp;exact⟨rfl,rfl⟩)) ?_;simp[bK];apply hK;clear K' hK;apply aF
   simp[au,aG,Post,aW,res1,bF,bC,aP,bg,bf,okT,okA,ok1,rowOf,Tryz.f21]
 ·unfold qg;split<;>rfl
set_option maxRecDepth 100000
set_option maxHeartbeats 4000000
theorem Ru.ext' {a b:Ru} (h2:a.name=b.name) (h3:a.range=b.range):a=b:=by
 cases a;cases b;simp_all
theorem Man.ext' {a b:Man} (h1:a.name=b.name) (h2:a.ver=b.ver) (h3:a.deps=b.deps) (h4:a.rules=b.rules):a=b:=by
 cases a;cases b;simp_all
theorem Ru.okR {ds:List Ru} (h:Ru.okL ds) {d:Ru} (hd:d∈ds):d.range.ok:=
 ⟨by have:=(h.2 d hd).1;omega,fun l hl=>by have:=(h.2 d hd).2 l hl;omega⟩
theorem JH (a b:List Ru) (ha:Ru.okL a):CallsOK Tryz.prog 96 [rowT Ru.cells a,rowT Ru.cells b] (bV (decide (a=b))) []:=by
 refine aN mixed Tryz.call96 Tryz.func96 rfl (by rw[Tryz.ntmps96];simp) ?_ rfl;rw[Tryz.ntmps96];refine aR fun K' hK=> ?_
 simp;apply hK;clear K' hK;apply aA;refine aR fun K' hK=> ?_
 simp;apply hK;clear K' hK;refine aC fun A B hA hB=> ?_
 simp;refine⟨fun hl=>hA ?_,fun hl=>hB ?_⟩<;>clear hA hB A B<;>(try simp at hl)<;>(try with_reducible refine aK ?_)
 ·refine aA ?_;refine aR fun K' hK=> ?_
  simp;apply hK;clear K' hK;apply aJ
  simp[au,aG,Post,aW,res1,bF,bC,aP,bg,bf,okT,okA,ok1,rowOf,Tryz.f96];intro e;exact hl (by rw[e])
 ·refine aA ?_;refine aR fun K' hK=> ?_
  simp;apply hK;clear K' hK;apply aB
  refine bH (fun s G nx=>s 0=rowT Ru.cells a∧s 1=rowT Ru.cells b∧∃i:Nat,s 5=iV i∧i≤a.length∧a.take i=b.take i) (fun s _ _=>match s 5 with | .v (.int _ n)=>a.length-n.toNat | _=>0) ?_ ?_
  ·exact⟨by simp,by simp,0,by simp,by omega,by simp⟩
  ·rintro s G nx-⟨s0,s1,i,s5,hi,ht⟩;have hw:IntKind.i64.wrap (↑i+1)=((i+1:Nat):Int):=dh (by have:=ha.1;omega);apply aA;refine aR fun K' hK=> ?_
   simp[s0,s5];apply hK;clear K' hK;refine aC fun A B hA hB=> ?_
   simp;refine⟨fun hi2=>hA ?_,fun hi2=>hB ?_⟩<;>clear hA hB A B<;>(try simp at hi2)<;>(try with_reducible refine aK ?_)
   ·have hi3:i<b.length:=(by omega);apply aB
    by_cases h2:(nth a i).name=(nth b i).name
    ·skip;refine aQ fun K' hK=> ?_
     simp[s0,s1,s5,hi2,hi3,h2];refine ak (Bf (nth a i).range (nth b i).range (Ru.okR ha (bM hi2))) rfl (by simp[Rg.cells]) ?_;simp;apply hK;clear K' hK;refine aD fun A B hA hB=> ?_
     simp;refine⟨fun hne=>hA ?_,fun hne=>hB ?_⟩<;>clear hA hB A B<;>(try simp at hne)<;>(try with_reducible refine aK ?_)
     ·refine aA ?_;refine aR fun K' hK=> ?_
      simp;apply hK;clear K' hK;apply aJ
      simp[au,aG,Post,aW,res1,bF,bC,aP,bg,bf,okT,okA,ok1,rowOf,Tryz.f96];exact oO (i:=i) fun e=>hne (by rw[e])
     ·refine aj ?_
      refine ah ?_;refine aS fun K' hK=> ?_
      simp[s5,hw];apply hK;clear K' hK;refine aj (ay ?_ ?_)
      ·exact⟨by simp[s0],by simp[s1],i+1,by simp[hw],by omega,nN hi2 hi3 ht (Ru.ext' h2 hne)⟩
      ·simp[s5,hw];omega
    ·skip;refine aQ fun K' hK=> ?_
     simp(maxSteps:=1000000) [s0,s1,s5,hi2,hi3,h2];apply hK;clear K' hK;refine aU (by simp) ?_;apply aA;refine aR fun K' hK=> ?_
     simp;apply hK;clear K' hK;apply aJ
     simp[au,aG,Post,aW,res1,bF,bC,aP,bg,bf,okT,okA,ok1,rowOf,Tryz.f96];exact oO (i:=i) fun e=>h2 (by rw[e])
   ·skip;apply bG
    refine aI (aH ?_);refine aR fun K' hK=> ?_
    simp;apply hK;clear K' hK;apply aF
    simp[au,aG,Post,aW,res1,bF,bC,aP,bg,bf,okT,okA,ok1,rowOf,Tryz.f96];exact jV (by omega) (by omega) ht
theorem KY (a b:Man) (ha:Man.okS a):CallsOK Tryz.prog 50 [.agg a.cells,.agg b.cells] (bV (decide (a=b))) []:=by
 refine aN mixed Tryz.call50 Tryz.func50 rfl (by rw[Tryz.ntmps50];simp) ?_ rfl;rw[Tryz.ntmps50];refine aR fun K' hK=> ?_
 simp;apply hK;clear K' hK;by_cases h1:a.name=b.name
 ·by_cases h2:a.ver=b.ver
  ·skip;refine aR fun K' hK=> ?_
   simp[h1,h2];refine ak (KN a.deps b.deps ha.1) rfl (by first | rfl | (simp;done) | (simp;rfl) | (simp;exact⟨rfl,rfl⟩)) ?_;by_cases h3:a.deps=b.deps
   ·simp[h3];refine ak (JH a.rules b.rules ha.2) rfl (by first | rfl | (simp;done) | (simp;rfl) | (simp;exact⟨rfl,rfl⟩)) ?_;simp;apply hK;clear K' hK;apply aF
    simp[au,aG,Post,aW,res1,bF,bC,aP,bg,bf,okT,okA,ok1,rowOf,Tryz.f50];exact⟨fun h=>Man.ext' h1 h2 h3 h,fun h=>by rw[h]⟩
   ·simp[h3];apply hK;clear K' hK;apply aF
    simp[au,aG,Post,aW,res1,bF,bC,aP,bg,bf,okT,okA,ok1,rowOf,Tryz.f50];exact fun h=>h3 (by rw[h])
  ·skip;refine aR fun K' hK=> ?_
   simp[h1,h2];apply hK;clear K' hK;apply aF
   simp[au,aG,Post,aW,res1,bF,bC,aP,bg,bf,okT,okA,ok1,rowOf,Tryz.f50];exact fun h=>h2 (by rw[h])
 ·skip;refine aR fun K' hK=> ?_
  simp[h1];apply hK;clear K' hK;apply aF
  simp[au,aG,Post,aW,res1,bF,bC,aP,bg,bf,okT,okA,ok1,rowOf,Tryz.f50];exact fun h=>h1 (by rw[h])
theorem KL (a b:List Man) (hl:a.length≤1000000000) (ha:∀m∈a,Man.okS m):CallsOK Tryz.prog 23 [rowT Man.cells a,rowT Man.cells b] (bV (decide (a=b))) []:=by
 refine aN mixed Tryz.call23 Tryz.func23 rfl (by rw[Tryz.ntmps23];simp) ?_ rfl;rw[Tryz.ntmps23];refine aR fun K' hK=> ?_
 simp;apply hK;clear K' hK;apply aA;refine aR fun K' hK=> ?_
 simp;apply hK;clear K' hK;refine aC fun A B hA hB=> ?_
 simp;refine⟨fun hl2=>hA ?_,fun hl2=>hB ?_⟩<;>clear hA hB A B<;>(try simp at hl2)<;>(try with_reducible refine aK ?_)
 ·refine aA ?_;refine aR fun K' hK=> ?_
  simp;apply hK;clear K' hK;apply aJ
  simp[au,aG,Post,aW,res1,bF,bC,aP,bg,bf,okT,okA,ok1,rowOf,Tryz.f23];intro e;exact hl2 (by rw[e])
 ·refine aA ?_;refine aR fun K' hK=> ?_
  simp;apply hK;clear K' hK;apply aB
  refine bH (fun s G nx=>s 0=rowT Man.cells a∧s 1=rowT Man.cells b∧∃i:Nat,s 5=iV i∧i≤a.length∧a.take i=b.take i) (fun s _ _=>match s 5 with | .v (.int _ n)=>a.length-n.toNat | _=>0) ?_ ?_
  ·exact⟨by simp,by simp,0,by simp,by omega,by simp⟩
  ·rintro s G nx-⟨s0,s1,i,s5,hi,ht⟩;have hw:IntKind.i64.wrap (↑i+1)=((i+1:Nat):Int):=dh (by omega);apply aA;refine aR fun K' hK=> ?_
   simp[s0,s5];apply hK;clear K' hK;refine aC fun A B hA hB=> ?_
   simp;refine⟨fun hi2=>hA ?_,fun hi2=>hB ?_⟩<;>clear hA hB A B<;>(try simp at hi2)<;>(try with_reducible refine aK ?_)
   ·have hi3:i<b.length:=(by omega);apply aB;refine aQ fun K' hK=> ?_
    simp[s0,s1,s5,hi2,hi3];refine ak (KY (nth a i) (nth b i) (ha _ (bM hi2))) rfl (by first | rfl | (simp;done) | (simp;rfl) | (simp;exact⟨rfl,rfl⟩)) ?_;simp;apply hK;clear K' hK;refine aD fun A B hA hB=> ?_
    simp;refine⟨fun hne=>hA ?_,fun hne=>hB ?_⟩<;>clear hA hB A B<;>(try simp at hne)<;>(try with_reducible refine aK ?_)
    ·refine aA ?_;refine aR fun K' hK=> ?_
     simp;apply hK;clear K' hK;apply aJ
     simp[au,aG,Post,aW,res1,bF,bC,aP,bg,bf,okT,okA,ok1,rowOf,Tryz.f23];exact oO (i:=i) hne
    ·refine aj ?_
     refine ah ?_;refine aS fun K' hK=> ?_
     simp[s5,hw];apply hK;clear K' hK;refine aj (ay ?_ ?_)
     ·exact⟨by simp[s0],by simp[s1],i+1,by simp[hw],by omega,nN hi2 hi3 ht hne⟩
     ·simp[s5,hw];omega
   ·skip;apply bG
    refine aI (aH ?_);refine aR fun K' hK=> ?_
    simp;apply hK;clear K' hK;apply aF
    simp[au,aG,Post,aW,res1,bF,bC,aP,bg,bf,okT,okA,ok1,rowOf,Tryz.f23];exact jV (by omega) (by omega) ht
set_option maxRecDepth 100000
set_option maxHeartbeats 4000000
def Vp:Bs:=⟨#[115,109,117,100,103,101]⟩
theorem KU {α:Type} [Inhabited α] {c:α→List AV} {w:Nat} [Wid c w] {l:List α} {i f:Nat} {ts:List AV} (h:i<l.length) (a:α) (hk:f+ts.length≤w) (ha:splice (c (nth l i)) f ts=c a):Aa (flat c l) w i f ts=flat c (l.set i a):=by
 unfold Aa splice flat;unfold splice at ha;induction l generalizing i with
 | nil=>simp at h
 | cons b l ih=>
  have hb:(c b).length=w:=Wid.len b;cases i with
  | zero=>
   have e:nth (b::l) 0=b:=rfl;rw[e]at ha;rw[List.flatMap_cons,List.set_cons_zero,List.flatMap_cons,←ha,Nat.zero_mul,Nat.zero_add,List.take_append_of_le_length (by omega),List.drop_append_of_le_length (by omega)];simp
  | succ i=>
   have ih:=ih (i:=i) (by simpa using h) ha;rw[List.flatMap_cons,List.set_cons_succ,List.flatMap_cons,←ih];have e1:(i+1)*w+f=w+(i*w+f):=(by rw[Nat.add_mul];omega);rw[e1,List.take_append,List.drop_append,hb];rw[List.take_of_length_le (by omega),List.drop_eq_nil_of_le (by omega)];have e2:w+(i*w+f)-w=i*w+f:=(by omega);have e3:w+(i*w+f)+ts.length-w=i*w+f+ts.length:=(by omega);rw[e2,e3];simp
def oU (root:Man) (L:List Man) (t:List Pl):List Pl:=if(growS root L t).2=0 then(growS root L t).1 else[]
theorem JI (root:Man) (L:List Man) (t:List Pl):qg root L t=(.tup [.row 0 (oU root L t).length,iV (growS root L t).2],[(50,flat Pl.cells (oU root L t))]):=by
 unfold qg oU;split
 ·rename_i h;rw[h]
 ·rfl
theorem Ij {root:Man} {L:List Man} {t:List Pl} (hsz:fP root L t):(oU root L t).length≤200:=by
 unfold oU;split
 ·rename_i h;exact(Qo h hsz).2.2
 ·simp
def JU (X:Hp) (nz:Nat) (x:AV) (u:List Pl):Prop:=bJ Tryz.prog X x=some (rowT Pl.cells u)∧(x=rowT Pl.cells u∨∃q n,x=.row q n∧q<nz)
theorem JU.upd {X:Hp} {nz k m:Nat} {x:AV} {u:List Pl} {o:AObj} (h:JU X nz x u) (hk:nz≤k) (hm:nz≤m):JU (X.upd k o) m x u:=by
 obtain⟨h1,rfl | ⟨q,n,rfl,hq⟩⟩:=h
 ·exact⟨rfl,.inl rfl⟩
 ·exact⟨by rw[kP (Hp.upd_ne _ _ (by omega))];exact h1,.inr ⟨q,n,rfl,by omega⟩⟩
theorem JU.frz {X:Hp} {nz:Nat} {x y:AV} {u:List Pl} (h:JU X nz x u):JU (bT X y) nz x u:=⟨by rw[uN];exact h.1,h.2⟩
theorem JU.see {X:Hp} {nz:Nat} {x:AV} {u:List Pl} (h:JU X nz x u):rD Tryz.prog X x=some (rowT Pl.cells u):=by
 obtain⟨h1,rfl | ⟨q,n,rfl,hq⟩⟩:=h
 ·rfl
 ·exact h1
theorem grows4_ok (hB:CallsOK Tryz.prog 14 [] (bV true) []) (root:Man) (L:List Man) (t:List Pl) (hl:L.length≤9223372036854775807) (htl:t.length≤9223372036854775807):CallsOK Tryz.prog 4 [.agg root.cells,rowT Man.cells L,rowT Pl.cells t] (bV true) []:=by
 refine aN mixed Tryz.call4 Tryz.func4 rfl (by rw[Tryz.ntmps4];simp) ?_ rfl;rw[Tryz.ntmps4];refine aR fun K' hK=> ?_
 simp;apply hK;clear K' hK;apply aA;refine aR fun K' hK=> ?_
 simp;refine ak (I9 root L t hl htl) rfl (by first | rfl | (simp;done) | (simp;rfl) | (simp;exact⟨rfl,rfl⟩)) ?_;by_cases hg:xZ root L t=true
 ·simp[hg];apply hK;clear K' hK;refine aX (by simp) ?_;apply aA;refine aR fun K' hK=> ?_
  simp;apply hK;clear K' hK;apply aJ
  simp[au,aG,Post,aW,res1,bF,bC,aP,bg,bf,okT,okA,ok1,rowOf,Tryz.f4]
 have hg':xZ root L t=false:=(by simpa using hg);obtain⟨hsz,hl1,h12⟩:=KA hg';simp[hg'];apply hK;clear K' hK;refine aYk (by simp) ?_
 obtain⟨a,b,c,e,_⟩:=id hsz;have hO:=Ah t (by omega);have hKp:=PL L c.1 e;have hG:=yL root L t hsz h12 hl1;have hR:=Bg root L t hsz h12 hl1;have hU:=FT root L a b c e h12;have hV:=IQ root L a b c e h12;have hR1:=fun h=>Gt (root:=root) (L:=L) (t:=t) h;have hR0:=fun h=>Gp (root:=root) (L:=L) (t:=t) h;have hV1:=fun h=>Gt (root:=root) (L:=L) (t:=[rootP]) h;have hV0:=fun h=>Gp (root:=root) (L:=L) (t:=[rootP]) h;have hw1:=Ij hsz;have hw2:=Ij (OW hsz);have hW1:∀h,oU root L t=(growS root L t).1:=fun(h:(growS root L t).2=0)=>(by unfold oU;rw[if_pos h]);have hW0:∀h,oU root L t=[]:=fun(h:¬(growS root L t).2=0)=>(by unfold oU;rw[if_neg h]);have hX1:∀h,oU root L [rootP]=(growS root L [rootP]).1:=fun(h:(growS root L [rootP]).2=0)=>(by unfold oU;rw[if_pos h]);have hX0:∀h,oU root L [rootP]=[]:=fun(h:¬(growS root L [rootP]).2=0)=>(by unfold oU;rw[if_neg h]);rw[JI]at hG hU;have hSm:=KL L L c.1 e;clear hg hg' a b c e h12;generalize gQ root L t=o1 at*;generalize gQ root L [rootP]=o2 at*;generalize oU root L t=w1 at*;generalize oU root L [rootP]=w2 at*;generalize growS root L t=r1 at*;generalize growS root L [rootP]=r2 at*;obtain⟨u1,c1⟩:=r1;obtain⟨u2,c2⟩:=r2;simp only at hG hU hR1 hR0 hV1 hV0 hW1 hW0 hX1 hX0;have hS1:=qJ w1 w1 (by omega);have hS2:=qJ w2 w2 (by omega);have hS3:=qJ t t (by omega);have c27:Tryz.prog.cellsOf 27=7:=(by kernel_rfl);have k0:∀(G:Hp) id n,¬0=id→bT G (.row id n) 0=G 0:=fun G id n h=>dW h;have k3:∀(G:Hp) id n,¬3=id→bT G (.row id n) 3=G 3:=fun G id n h=>dW h;refine aR fun K' hK=> ?_
 simp;refine aO hO (by first | rfl | (simp;done) | (simp;rfl) | (simp;exact⟨rfl,rfl⟩)) ?_;simp[bK];apply hK;clear K' hK;refine aR fun K' hK=> ?_
 simp;refine aO hKp (by first | rfl | (simp;done) | (simp;rfl) | (simp;exact⟨rfl,rfl⟩)) ?_;simp[bK];apply hK;clear K' hK;refine fV (fun u X nz=>u 1=rowT Man.cells L∧u 2=rowT Pl.cells t∧u 3=.ptr 0 0∧u 7=.row 1 t.length∧u 8=.row 2 L.length∧nz=3∧X 0=some (.var 27 root.cells)∧X 1=some (.row 50 (flat Pl.cells t))∧X 2=some (.row 27 (flat Man.cells L))) ?_ ?_
 ·exact⟨by simp,by simp,by simp,by simp,by simp,by simp,by simp,by simp,by simp⟩
 clear hO hKp;rintro s G nx ⟨s1,s2,s3,s7,s8,rfl,g0,g1,g2⟩;refine aR fun K' hK=> ?_
 simp[s1,s2,s3,g0];refine aO hG (by first | rfl | (simp;done) | (simp;rfl) | (simp;exact⟨rfl,rfl⟩)) ?_;simp[bK];apply hK;clear K' hK;refine fV (fun u X nz=>u 1=rowT Man.cells L∧u 2=rowT Pl.cells t∧u 3=.ptr 0 0∧u 7=.row 1 t.length∧u 8=.row 2 L.length∧u 9=.row 3 w1.length∧u 10=iV c1∧nz=4∧X 0=some (.var 27 root.cells)∧X 3=some (.row 50 (flat Pl.cells w1))∧bJ Tryz.prog X (.row 1 t.length)=some (rowT Pl.cells t)∧bJ Tryz.prog X (.row 2 L.length)=some (rowT Man.cells L)) ?_ ?_
 ·exact⟨by simp[s1],by simp[s2],by simp[s3],by simp[s7],by simp[s8],by simp,by simp,by simp,by simp[g0],by simp,dN (by simp[g1]) c50 rfl,dN (by simp[g2]) c27 rfl⟩
 clear hG s1 s2 s3 s7 s8 g0 g1 g2;clear s G;rintro s G nx ⟨s1,s2,s3,s7,s8,s9,s10,rfl,g0,g3,t1,t2⟩;have tf:∀(H:Hp) (x y:AV),bJ Tryz.prog (bT H x) y=bJ Tryz.prog H y:=fun H x y=>uN;have tu:∀(H:Hp) (k id n:Nat) (o:AObj),¬id=k→bJ Tryz.prog (H.upd k o) (.row id n)=bJ Tryz.prog H (.row id n):=fun H k id n o h=>kP (Hp.upd_ne _ _ h);have A1:argsOf Tryz.prog G [.agg root.cells,.row 2 L.length,.row 1 t.length]=some ([.agg root.cells,rowT Man.cells L,rowT Pl.cells t],bT (bT G (.row 2 L.length)) (.row 1 t.length)):=by
  simp[t1,t2,tf,Man.cells]
 refine fC (fun u X nz=>u 1=rowT Man.cells L∧u 2=rowT Pl.cells t∧u 3=.ptr 0 0∧u 7=.row 1 t.length∧u 8=.row 2 L.length∧u 9=.row 3 w1.length∧u 10=iV c1∧u 12=iV c1∧3<nz∧JU X nz (u 11) w1∧X 0=some (.var 27 root.cells)∧X 3=some (.row 50 (flat Pl.cells w1))∧bJ Tryz.prog X (.row 1 t.length)=some (rowT Pl.cells t)∧bJ Tryz.prog X (.row 2 L.length)=some (rowT Man.cells L)) ?_ ?_
 ·by_cases h:c1=0
  ·have hR1:=hR1 h;subst hR1;refine aS fun K' hK=> ?_
   simp[s3,s7,s8,g0];refine jE hR A1 ?_;rw[zB];simp[dO];apply hK;clear K' hK;with_reducible refine bP ?_
   exact⟨by simp[s1],by simp[s2],by simp[s3],by simp[s7],by simp[s8],by simp[s9],by simp[s10],by simp[h],by omega,⟨by simp[hW1 h],.inl (by simp[hW1 h])⟩,by simp[k0,g0],by simp[k3,g3],by simp[tf,t1],by simp[tf,t2]⟩
  ·have hR0:=hR0 h;subst hR0;refine aS fun K' hK=> ?_
   simp[s3,s7,s8,g0];refine jE hR A1 ?_;simp[bK];apply hK;clear K' hK;with_reducible refine bP ?_
   have hw:=hW0 h;subst hw;exact⟨by simp[s1],by simp[s2],by simp[s3],by simp[s7],by simp[s8],by simp[s9],by simp[s10],by simp,by omega,⟨dN (l:=([]:List Pl)) (e:=50) (by simp) c50 rfl,.inr ⟨4,0,by simp,by omega⟩⟩,by simp[k0,g0],by simp[k3,g3],by simp[tu,tf,t1],by simp[tu,tf,t2]⟩
 clear hR hR0 hR1 A1 s1 s2 s3 s7 s8 s9 s10 g0 g3 t1 t2;clear s G;rintro s G nx ⟨s1,s2,s3,s7,s8,s9,s10,s12,hnx,x11,g0,g3,t1,t2⟩;have n0:¬0=nx:=(by omega);have n1:¬1=nx:=(by omega);have n2:¬2=nx:=(by omega);have n3:¬3=nx:=(by omega);refine aR fun K' hK=> ?_
 simp[s1,s3,g0];refine aO hU (by first | rfl | (simp;done) | (simp;rfl) | (simp;exact⟨rfl,rfl⟩)) ?_;simp[bK];apply hK;clear K' hK;refine fV (fun u X nz=>u 1=rowT Man.cells L∧u 2=rowT Pl.cells t∧u 3=.ptr 0 0∧u 7=.row 1 t.length∧u 8=.row 2 L.length∧u 9=.row 3 w1.length∧u 10=iV c1∧u 12=iV c1∧u 13=.row nx w2.length∧u 14=iV c2∧nz=nx+1∧JU X nz (u 11) w1∧X 0=some (.var 27 root.cells)∧X 3=some (.row 50 (flat Pl.cells w1))∧X nx=some (.row 50 (flat Pl.cells w2))∧bJ Tryz.prog X (.row 1 t.length)=some (rowT Pl.cells t)∧bJ Tryz.prog X (.row 2 L.length)=some (rowT Man.cells L)) ?_ ?_
 ·exact⟨by simp[s1],by simp[s2],by simp[s3],by simp[s7],by simp[s8],by simp[s9],by simp[s10],by simp[s12],by simp,by simp,by simp,(by simp;exact x11.upd (by omega) (by omega)),by simp[g0,n0],by simp[g3,n3],by simp,by rw[tu _ _ _ _ _ n1];exact t1,by rw[tu _ _ _ _ _ n2];exact t2⟩
 clear hU s1 s2 s3 s7 s8 s9 s10 s12 x11 g0 g3 t1 t2;clear s G;rintro s G nz ⟨s1,s2,s3,s7,s8,s9,s10,s12,s13,s14,rfl,x11,g0,g3,gx,t1,t2⟩;have A2:argsOf Tryz.prog G [.agg root.cells,.row 2 L.length]=some ([.agg root.cells,rowT Man.cells L],bT G (.row 2 L.length)):=by
  simp[t2,tf,Man.cells]
 have nx0:¬nx=2:=(by omega);have kx:∀(H:Hp) n,bT H (.row 2 n) nx=H nx:=fun H n=>dW nx0;refine fC (fun u X nz=>u 1=rowT Man.cells L∧u 2=rowT Pl.cells t∧u 7=.row 1 t.length∧u 8=.row 2 L.length∧u 9=.row 3 w1.length∧u 10=iV c1∧u 12=iV c1∧u 13=.row nx w2.length∧u 14=iV c2∧u 16=iV c2∧JU X nz (u 11) w1∧JU X nz (u 15) w2∧X 3=some (.row 50 (flat Pl.cells w1))∧X nx=some (.row 50 (flat Pl.cells w2))∧bJ Tryz.prog X (.row 1 t.length)=some (rowT Pl.cells t)∧bJ Tryz.prog X (.row 2 L.length)=some (rowT Man.cells L)) ?_ ?_
 ·by_cases h:c2=0
  ·have hV1:=hV1 h;subst hV1;refine aS fun K' hK=> ?_
   simp[s3,s8,g0];refine jE hV A2 ?_;rw[zB];simp[dO];apply hK;clear K' hK;with_reducible refine bP ?_
   exact⟨by simp[s1],by simp[s2],by simp[s7],by simp[s8],by simp[s9],by simp[s10],by simp[s12],by simp[s13],by simp[s14],by simp[h],(by simp;exact x11.frz),⟨by simp[hX1 h],.inl (by simp[hX1 h])⟩,by simp[k3,g3],by simp[kx,gx],by simp[tf,t1],by simp[tf,t2]⟩
  ·have hV0:=hV0 h;subst hV0;refine aS fun K' hK=> ?_
   simp[s3,s8,g0];refine jE hV A2 ?_;simp[bK];apply hK;clear K' hK;with_reducible refine bP ?_
   have hw:=hX0 h;subst hw;have m1:¬1=nx+1:=(by omega);have m2:¬2=nx+1:=(by omega);have m3:¬3=nx+1:=(by omega);have m4:¬nx=nx+1:=(by omega);exact⟨by simp[s1],by simp[s2],by simp[s7],by simp[s8],by simp[s9],by simp[s10],by simp[s12],by simp[s13],by simp[s14],by simp,(by simp;exact x11.frz.upd (by omega) (by omega)),⟨(by simp;exact dN (l:=([]:List Pl)) (e:=50) (by simp) c50 rfl),.inr ⟨nx+1,0,by simp,by omega⟩⟩,by simp[k3,g3,m3],by simp[kx,gx,m4],by rw[tu _ _ _ _ _ m1,tf];exact t1,by rw[tu _ _ _ _ _ m2,tf];exact t2⟩
 clear hV hV0 hV1 hX0 hX1 hW0 hW1 A2 s1 s2 s3 s7 s8 s9 s10 s12 s13 s14 x11 g0 g3 gx t1 t2;clear s G;rintro s G nz ⟨s1,s2,s7,s8,s9,s10,s12,s13,s14,s16,x11,x15,g3,gx,t1,t2⟩;have t3:bJ Tryz.prog G (.row 3 w1.length)=some (rowT Pl.cells w1):=dN g3 c50 rfl;have t4:bJ Tryz.prog G (.row nx w2.length)=some (rowT Pl.cells w2):=dN gx c50 rfl;have e11:=x11.see;have e15:=x15.see;refine aR fun K' hK=> ?_
 simp[s9,s10,s12];refine ak hS1 rfl (by simp[t3,e11]) ?_;simp[s13,s14,s16];refine ak hS2 rfl (by simp[t4,e15]) ?_;simp;apply hK;clear K' hK;apply aA;refine aR fun K' hK=> ?_
 simp;apply hK;clear K' hK;apply aB
 refine bH (fun s G nx=>s 1=rowT Man.cells L∧s 2=rowT Pl.cells t∧s 7=.row 1 t.length∧s 8=.row 2 L.length∧s 9=.row 3 w1.length∧s 17=bV true∧bJ Tryz.prog G (.row 1 t.length)=some (rowT Pl.cells t)∧bJ Tryz.prog G (.row 2 L.length)=some (rowT Man.cells L)∧∃(i:Nat) (u:List Pl),s 18=iV i∧i≤w1.length∧u.length=w1.length∧G 3=some (.row 50 (flat Pl.cells u))) (fun s _ _=>match s 18 with | .v (.int _ n)=>w1.length-n.toNat | _=>0) ?_ ?_
 ·exact⟨by simp[s1],by simp[s2],by simp[s7],by simp[s8],by simp[s9],by simp,t1,t2,0,w1,by simp,by omega,rfl,g3⟩
 clear s1 s2 s7 s8 s9 s10 s12 s13 s14 s16 x11 x15 g3 gx t1 t2 t3 t4 e11 e15;clear s G;rintro s G nz-⟨s1,s2,s7,s8,s9,s17,t1,t2,i,u,s18,hi,hul,g3⟩;have o18:=s18;have hw:IntKind.i64.wrap (↑i+1)=((i+1:Nat):Int):=dh (by omega);apply aA;refine aR fun K' hK=> ?_
 simp[s9,s18,g3];apply hK;clear K' hK;refine aC fun A B hA hB=> ?_
 simp;refine⟨fun hi2=>hA ?_,fun hi2=>hB ?_⟩<;>clear hA hB A B<;>(try simp at hi2)<;>(try with_reducible refine aK ?_)
 ·have hiu:i<u.length:=(by omega);have hput:Aa (flat Pl.cells u) 6 i 1 [sV Vp]=flat Pl.cells (u.set i {nth u i with name:=Vp}):=KU hiu _ (by simp) rfl;apply aB;refine aS fun K' hK=> ?_
  simp[s9,s18,g3,hi2,hiu,hput];apply hK;clear K' hK;apply aj
  refine ah ?_;refine aS fun K' hK=> ?_
  simp[s18,hw];apply hK;clear K' hK;refine aj (ay ?_ ?_)
  ·exact⟨by simp[s1],by simp[s2],by simp[s7],by simp[s8],by simp[s9],by simp[s17],by rw[tu _ _ _ _ _ (by decide)];exact t1,by rw[tu _ _ _ _ _ (by decide)];exact t2,i+1,u.set i {nth u i with name:=Vp},by simp[hw],by omega,by simp[hul],by simp;exact hput⟩
  ·simp[o18,s18,hw];omega
 ·skip;apply bG
  refine aI (aH ?_);refine aR fun K' hK=> ?_
  simp;refine ak hB rfl (by first | rfl | (simp;done) | (simp;rfl) | (simp;exact⟨rfl,rfl⟩)) ?_;simp[s17,s2,s7];refine ak hS3 rfl (by simp[t1]) ?_;simp[s1,s8];refine ak hSm rfl (by simp[t2]) ?_;simp;apply hK;clear K' hK;apply aF
  simp[au,aG,Post,aW,res1,bF,bC,aP,bg,bf,okT,okA,ok1,rowOf,Tryz.f4]
end Go.Proofs.YtmmbgjmigmchbaaGreatDoorAbs
