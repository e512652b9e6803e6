/- NestReached. -/
import Derived.Test.YtmmbgjmigmchbaaGreatDoorNa9
namespace Go.Proofs.YtmmbgjmigmchbaaGreatDoorAbs
set_option linter.unusedSimpArgs false
set_option linter.unusedVariables false
open Go Go.RowKit Go.Proofs
set_option maxRecDepth 100000
set_option maxHeartbeats 4000000
theorem uh {P:Program} [Gl P] {G G1:Hp} {nx:Nat} {d:Bool} {f:FuncId} {xs ts:List AV} {cls:Nat} {K:AV→Hp→Nat→Prop} {r:AV} {J:Js} (hk:CallsOK P f ts r J) (ha:argsOf P G xs=some (ts,G1)) (h:K (shiftT nx r) (addJ G1 nx J) (nx+J.length)):pV P d f xs cls K G nx:=
 .inr (.inl ⟨_,_,_,_,ha,hk,h⟩)
theorem vT {X:Hp} {id n:Nat} {e:TypeId} {cs:List AV} (h:X id=some (.frz e cs)):bU X (.row id n)=X:=by simp[bU,h]
theorem AL {G:Hp} {id n:Nat} {e:TypeId} {cs:List AV} (h:G id=some (.row e cs)) (hn:0<cs.length):bU G (.row id n)=G.upd id (.frz e cs):=by
 cases cs with
 | nil=>cases hn
 | cons c cs=>simp[bU,h]
theorem Qi {t:List Pl} (h:bigT t=false):gy dh nsX t:=Bl qY.1 qY.2.1 h
theorem V3:CallsOK Tryz.prog 21 [.agg OQ,rowT Man.cells nsX] (.tup [rowT Pl.cells nsT,iV 0]) []:=by
 obtain⟨a,b,c,d,_⟩:=Qi qY.2.2.2.2.2;have h:=lK dh nsX a b c d (fun _=>by decide);have e:ig dh nsX [rootP]=(.tup [rowT Pl.cells nsT,iV 0],[]):=(by unfold ig;rw[OM];rfl);rw[e]at h;exact h.weak (.cons MX (.cons (.refl _) .nil))
theorem WC:CallsOK Tryz.prog 21 [.agg OQ,rowT Man.cells Qd] (.tup [.row 0 0,iV 180]) [(50,[])]:=by
 obtain⟨a,b,c,d,_⟩:=Bl qY.1 qY.2.2.1 qY.2.2.2.2.2;have h:=lK dh Qd a b c d (fun _=>by decide);have e:ig dh Qd [rootP]=(.tup [.row 0 0,iV 180],[(50,[])]):=(by unfold ig;rw[TB];rfl);rw[e]at h;exact h.weak (.cons MX (.cons (.refl _) .nil))
theorem Ws:CallsOK Tryz.prog 19 [.agg OQ,rowT Man.cells nsX,rowT Pl.cells Dz] (.tup [rowT Pl.cells nsT,iV 0]) []:=by
 have h:=qC dh nsX Dz (Qi qY.2.2.2.1) (fun _=>by decide) (by decide);have e:ig dh nsX Dz=(.tup [rowT Pl.cells nsT,iV 0],[]):=(by unfold ig;rw[Tv];rfl);rw[e]at h;exact h.weak (.cons MX (.cons (.refl _) (.cons (.refl _) .nil)))
theorem Vl:CallsOK Tryz.prog 15 [.agg OQ,rowT Man.cells nsX,rowT Pl.cells Kz,iV 1,.agg (Dep.cells ⟨1,uB,Kt 1⟩),.agg (uV 1).cells] (iV 1) []:=by
 have h:=su dh nsX Kz (Qi qY.2.2.2.2.1) 1 ⟨1,uB,Kt 1⟩ (uV 1) (by decide) (by decide);rw[GZ.1]at h;exact h.weak (.cons MX (.cons (.refl _) (.cons (.refl _) (.cons (.refl _) (.cons (.refl _) (.cons (.refl _) .nil))))))
theorem Vh:CallsOK Tryz.prog 15 [.agg OQ,rowT Man.cells nsX,rowT Pl.cells Dz,iV 1,.agg (Dep.cells ⟨1,uB,Kt 1⟩),.agg (uV 1).cells] (iV 0) []:=by
 have h:=su dh nsX Dz (Qi qY.2.2.2.1) 1 ⟨1,uB,Kt 1⟩ (uV 1) (by decide) (by decide);rw[GZ.2]at h;exact h.weak (.cons MX (.cons (.refl _) (.cons (.refl _) (.cons (.refl _) (.cons (.refl _) (.cons (.refl _) .nil))))))
theorem builds14_ok:CallsOK Tryz.prog 14 [] (bV true) []:=by
 refine aO mixed Tryz.call14 Tryz.func14 rfl (by rw[Tryz.ntmps14];simp) ?_ rfl;rw[Tryz.ntmps14];have c35:Tryz.prog.cellsOf 35=3:=(by kernel_rfl);have c27:Tryz.prog.cellsOf 27=7:=(by kernel_rfl);have c50:Tryz.prog.cellsOf 50=6:=(by kernel_rfl);have c71:Tryz.prog.cellsOf 71=1:=(by kernel_rfl);have hS:=qJ nsT nsT (by decide);have hbr:gX (nsB 0) 0 7=some (nsB 0):=rfl;refine aR fun K' hK=> ?_
 simp;apply hK;clear K' hK;refine aR fun K' hK=> ?_
 simp;refine aN Jo (by simp) ?_;simp[jV];apply hK;clear K' hK;refine aR fun K' hK=> ?_
 simp;apply hK;clear K' hK;refine aR fun K' hK=> ?_
 simp;apply hK;clear K' hK;refine fO (fun u X nz=>u 1=.ptr 2 0∧u 2=.row 1 3∧u 3=.ptr 3 0∧u 4=.row 4 4∧nz=5∧X 0=some (.row 35 (flat Dep.cells dh.deps))∧X 1=some (.row 27 (flat Man.cells nsX))∧X 2=some (.var 27 (nsB 0))∧X 3=some (.var 23 (uV 1).cells)∧X 4=some (.row 50 (flat Pl.cells nsT))) ?_ ?_
 ·exact⟨by simp,by simp,by simp,by simp,by simp,by simp,by simp,by simp;rfl,by simp;rfl,by simp;rfl⟩
 rintro s G nx ⟨s1,s2,s3,s4,rfl,g0,g1,g2,g3,g4⟩;have A0:argsOf Tryz.prog G [.agg (nsB 0),.row 1 3]=some ([.agg OQ,rowT Man.cells nsX],(G.upd 0 (.frz 35 (flat Dep.cells dh.deps))).upd 1 (.frz 27 (flat Man.cells nsX))):=by
  have t0:bM Tryz.prog G (.row 0 2)=some (rowT Dep.cells dh.deps):=dU g0 c35 rfl;have h0:bU G (.row 0 2)=G.upd 0 (.frz 35 (flat Dep.cells dh.deps)):=AL g0 (by decide+kernel);have g1':(G.upd 0 (.frz 35 (flat Dep.cells dh.deps))) 1=some (.row 27 (flat Man.cells nsX)):=(by rw[Hp.upd_ne _ _ (by decide)];exact g1);have t1:bM Tryz.prog (G.upd 0 (.frz 35 (flat Dep.cells dh.deps))) (.row 1 3)=some (rowT Man.cells nsX):=dU g1' c27 rfl;have h1:bU (G.upd 0 (.frz 35 (flat Dep.cells dh.deps))) (.row 1 3)=(G.upd 0 (.frz 35 (flat Dep.cells dh.deps))).upd 1 (.frz 27 (flat Man.cells nsX)):=AL g1' (by decide+kernel);have hv:∀(G:Hp) x,bU G (.v x)=G:=fun _ _=>rfl;simp only[argsOf,cu,nsB,BG,hv,t0,h0,t1,h1];rfl
 refine aR fun K' hK=> ?_
 simp[s1,s2,g2,hbr];refine uh V3 A0 ?_;rw[pK];simp[dG];apply hK;clear K' hK;refine fO (fun u X nz=>u 1=.ptr 2 0∧u 2=.row 1 3∧u 3=.ptr 3 0∧u 4=.row 4 4∧u 5=rowT Pl.cells nsT∧u 6=iV 0∧nz=5∧X 0=some (.frz 35 (flat Dep.cells dh.deps))∧X 1=some (.frz 27 (flat Man.cells nsX))∧X 2=some (.var 27 (nsB 0))∧X 3=some (.var 23 (uV 1).cells)∧X 4=some (.row 50 (flat Pl.cells nsT))) ?_ ?_
 ·exact⟨by simp[s1],by simp[s2],by simp[s3],by simp[s4],by simp,by simp,by simp,by simp,by simp,by simp[g2],by simp[g3],by simp[g4]⟩
 clear s1 s2 s3 s4 g0 g1 g2 g3 g4 A0;clear s G;rintro s G nx ⟨s1,s2,s3,s4,s5,s6,rfl,g0,g1,g2,g3,g4⟩;have AC:∀(X G':Hp) (xs bs:List AV),X 0=some (.frz 35 (flat Dep.cells dh.deps))→argsOf Tryz.prog X xs=some (bs,G')→argsOf Tryz.prog X (.agg (nsB 0)::xs)=some (.agg OQ::bs,G'):=fun X G' xs bs h0 h=>by
  have t0:bM Tryz.prog X (.row 0 2)=some (rowT Dep.cells dh.deps):=gW h0 c35 rfl;have f0:bU X (.row 0 2)=X:=vT h0;have hv:∀(G:Hp) x,bU G (.v x)=G:=fun _ _=>rfl;simp only[argsOf,cu,nsB,BG,hv,t0,f0,h];rfl
 have AX:∀(X G':Hp) (xs bs:List AV),X 1=some (.frz 27 (flat Man.cells nsX))→argsOf Tryz.prog X xs=some (bs,G')→argsOf Tryz.prog X (.row 1 3::xs)=some (rowT Man.cells nsX::bs,G'):=fun X G' xs bs h0 h=>by
  have t0:bM Tryz.prog X (.row 1 3)=some (rowT Man.cells nsX):=gW h0 c27 rfl;have f0:bU X (.row 1 3)=X:=vT h0;simp only[argsOf,t0,f0,h]
 have S1:∀(X:Hp) lo hi,X 1=some (.frz 27 (flat Man.cells nsX))→lo 0=some 0→hi 3=some 1→fD Tryz.prog X 28 (.row 1 3) lo hi=some (rowT Man.cells Qd,X):=fun X lo hi h0 h1 h2=>by
  have:=jK (c:=Man.cells) (l:=nsX) (lo:=lo) (hi:=hi) (x:=.row 1 3) (by simp) Wu (gW h0 c27 rfl) h1 h2 (by decide);rw[vT h0]at this;exact this
 have S1:=S1 G (fun d=>some d) (fun d=>some 1) g1 rfl rfl;refine eY none [] (by decide+kernel) (by decide+kernel) (fun p' hp'=>by cases hp') fun K' hK=> ?_;simp[s1,s2,g2,S1,g1,iW,hbr];refine uh (G1:=G) WC ?_ ?_
 ·exact AC _ _ _ _ g0 rfl
 simp[bH];apply hK;clear K' hK;have hz:bU G (.row 4 4)=G.upd 4 (.frz 50 (flat Pl.cells nsT)):=AL g4 (by decide+kernel);refine fO (fun u X nz=>u 1=.ptr 2 0∧u 2=.row 1 3∧u 3=.ptr 3 0∧u 4=.row 4 4∧u 5=rowT Pl.cells nsT∧u 6=iV 0∧u 8=iV 180∧nz=6∧X 0=some (.frz 35 (flat Dep.cells dh.deps))∧X 1=some (.frz 27 (flat Man.cells nsX))∧X 2=some (.var 27 (nsB 0))∧X 3=some (.var 23 (uV 1).cells)∧X 4=some (.row 50 (flat Pl.cells nsT))) ?_ ?_
 ·exact⟨by simp[s1],by simp[s2],by simp[s3],by simp[s4],by simp[s5],by simp[s6],by simp,by simp,by simp[g0],by simp[g1],by simp[g2],by simp[g3],by simp[g4]⟩
 clear s1 s2 s3 s4 s5 s6 g0 g1 g2 g3 g4 hz S1;clear s G;rintro s G nx ⟨s1,s2,s3,s4,s5,s6,s8,rfl,g0,g1,g2,g3,g4⟩;have S2:∀(X:Hp) lo hi,X 4=some (.row 50 (flat Pl.cells nsT))→lo 0=some 0→hi 4=some 2→fD Tryz.prog X 29 (.row 4 4) lo hi=some (rowT Pl.cells Dz,X.upd 4 (.frz 50 (flat Pl.cells nsT))):=fun X lo hi h0 h1 h2=>by
  have:=jK (c:=Pl.cells) (l:=nsT) (lo:=lo) (hi:=hi) (x:=.row 4 4) (by simp) VE (dU h0 c50 rfl) h1 h2 (by decide);have hz:bU X (.row 4 4)=X.upd 4 (.frz 50 (flat Pl.cells nsT)):=AL h0 (by decide+kernel);rw[hz]at this;exact this
 have S2:=S2 G (fun d=>some d) (fun d=>some 2) g4 rfl rfl;refine eY none [] (by decide+kernel) (by decide+kernel) (fun p' hp'=>by cases hp') fun K' hK=> ?_;simp[s1,s2,s4,g2,S2,g4,iW,hbr];refine uh Ws (by exact AC _ _ _ _ (by simp[g0]) (AX _ _ _ _ (by simp[g1]) rfl)) ?_;rw[pK];simp[dG];apply hK;clear K' hK;refine fO (fun u X nz=>u 1=.ptr 2 0∧u 2=.row 1 3∧u 3=.ptr 3 0∧u 4=.row 4 4∧u 5=rowT Pl.cells nsT∧u 6=iV 0∧u 8=iV 180∧u 9=rowT Pl.cells nsT∧u 10=iV 0∧nz=6∧X 0=some (.frz 35 (flat Dep.cells dh.deps))∧X 1=some (.frz 27 (flat Man.cells nsX))∧X 2=some (.var 27 (nsB 0))∧X 3=some (.var 23 (uV 1).cells)∧X 4=some (.frz 50 (flat Pl.cells nsT))) ?_ ?_
 ·exact⟨by simp[s1],by simp[s2],by simp[s3],by simp[s4],by simp[s5],by simp[s6],by simp[s8],by simp,by simp,by simp,by simp[g0],by simp[g1],by simp[g2],by simp[g3],by simp⟩
 clear s1 s2 s3 s4 s5 s6 s8 g0 g1 g2 g3 g4 S2 AX AC;clear s G;rintro s G nx ⟨s1,s2,s3,s4,s5,s6,s8,s9,s10,rfl,g0,g1,g2,g3,g4⟩;have S2:∀(X:Hp) lo hi,X 4=some (.frz 50 (flat Pl.cells nsT))→lo 0=some 0→hi 4=some 2→fD Tryz.prog X 29 (.row 4 4) lo hi=some (rowT Pl.cells Dz,X):=fun X lo hi h0 h1 h2=>by
  have:=jK (c:=Pl.cells) (l:=nsT) (lo:=lo) (hi:=hi) (x:=.row 4 4) (by simp) VE (gW h0 c50 rfl) h1 h2 (by decide);rw[vT h0]at this;exact this
 have S3:∀(X:Hp) lo hi,X 4=some (.frz 50 (flat Pl.cells nsT))→lo 0=some 0→hi 4=some 3→fD Tryz.prog X 29 (.row 4 4) lo hi=some (rowT Pl.cells Kz,X):=fun X lo hi h0 h1 h2=>by
  have:=jK (c:=Pl.cells) (l:=nsT) (lo:=lo) (hi:=hi) (x:=.row 4 4) (by simp) VE (gW h0 c50 rfl) h1 h2 (by decide);rw[vT h0]at this;exact this
 have T:∀(X:Hp) (t:List Pl) (r:Nat),X 0=some (.frz 35 (flat Dep.cells dh.deps))→X 1=some (.frz 27 (flat Man.cells nsX))→X r=some (.row 71 (flat Alt.cells (Kt 1)))→seesA Tryz.prog X [.agg (nsB 0),.row 1 3,rowT Pl.cells t,iV 1,.agg [iV 1,sV uB,.row r 1],.agg (uV 1).cells]=some [.agg OQ,rowT Man.cells nsX,rowT Pl.cells t,iV 1,.agg (Dep.cells ⟨1,uB,Kt 1⟩),.agg (uV 1).cells]:=fun X t r h0 h1 h2=>by
  have t0:bM Tryz.prog X (.row 0 2)=some (rowT Dep.cells dh.deps):=gW h0 c35 rfl;have t1:bM Tryz.prog X (.row 1 3)=some (rowT Man.cells nsX):=gW h1 c27 rfl;have t2:bM Tryz.prog X (.row r 1)=some (rowT Alt.cells (Kt 1)):=dU h2 c71 rfl;simp only[seesA,uw,nsB,iK,lookA,t0,t1,t2,rowT];rfl
 have T4:seesA Tryz.prog G [rowT Pl.cells nsT,.row 4 4]=some [rowT Pl.cells nsT,rowT Pl.cells nsT]:=by
  have t4:bM Tryz.prog G (.row 4 4)=some (rowT Pl.cells nsT):=gW g4 c50 rfl;simp only[seesA,uw,lookA,t4,rowT]
 (repeat with_reducible refine lU ?_);refine eY none [] (by decide+kernel) (by decide+kernel) (fun p' hp'=>by cases hp') fun K' hK=> ?_;refine bJ 8 fun K2 hK2=> ?_;simp[s4,s5,s6];refine aj hS rfl T4 ?_;simp;refine hK2 _ _ _ ?_;clear K2 hK2;refine bJ 8 fun K2 hK2=> ?_;simp[s8,s10];refine hK2 _ _ _ ?_;clear K2 hK2;refine bJ 5 fun K2 hK2=> ?_;simp[s4,s9];refine aj hS rfl T4 ?_;simp;refine hK2 _ _ _ ?_;clear K2 hK2;refine bJ 11 fun K2 hK2=> ?_;have S3:=S3 G (fun d=>some d) (fun d=>some 3) g4 rfl rfl;simp[s1,s2,s3,s4,g2,g3,g4,S3,iW,hbr];refine aN (nY 1) (by simp) ?_;simp[bH,s1,s2,s3,s4,g2,g3,g4];refine aj Vl rfl (T _ _ 6 (by simp[g0]) (by simp[g1]) (by simp)) ?_;simp;refine hK2 _ _ _ ?_;clear K2 hK2;simp[s1,s2,s3,s4,g2,g3,g4,S2,iW,hbr];refine aN (nY 1) (by simp) ?_;simp[bH,s1,s2,s3,s4,g2,g3,g4];refine aj Vh rfl (T _ _ 7 (by simp[g0]) (by simp[g1]) (by simp)) ?_;simp;apply hK;clear K' hK;apply aG
 simp[au,aF,Post,bC,res1,bF,bg,aP,bf,aW,okT,okA,ok1,rowOf,Tryz.f14]
set_option maxRecDepth 100000
set_option maxHeartbeats 4000000
def jv (root:Man) (L:List Man) (t:List Pl):Bool:=Qq root L t || (decide (10<L.length∧L.length≤100) || decide (15<t.length∧t.length≤200))
theorem ku (root:Man) (L:List Man) (t:List Pl) (hl:L.length≤9223372036854775807) (ht:t.length≤9223372036854775807):CallsOK Tryz.prog 10 [.agg root.cells,rowT Man.cells L,rowT Pl.cells t] (bV (jv root L t)) []:=by
 refine aO mixed Tryz.call10 Tryz.func10 rfl (by rw[Tryz.ntmps10];simp) ?_ rfl;rw[Tryz.ntmps10];unfold jv;refine aR fun K' hK=> ?_
 simp;apply hK;clear K' hK;refine aR fun K' hK=> ?_
 simp;refine aj (PX root L t hl ht) rfl (by first | rfl | (simp;done) | (simp;rfl) | (simp;exact⟨rfl,rfl⟩)) ?_;by_cases hb:Qq root L t=true
 ·simp[hb];apply hK;clear K' hK;apply aG
  simp[au,aF,Post,bC,res1,bF,bg,aP,bf,aW,okT,okA,ok1,rowOf,Tryz.f10];first | exact .inl hb | exact .inr (.inl ⟨n1,n2⟩) | exact .inr (.inr ⟨n3,n4⟩) | exact⟨hb',fun _=>by omega,fun _=>by omega⟩
 have hb':Qq root L t=false:=(by simpa using hb);by_cases n1:10<L.length
 ·have m1:(10:Int)<L.length:=(by omega);by_cases n2:L.length≤100
  ·have m2:(L.length:Int)≤100:=(by omega);simp[hb',n1,n2,m1,m2];apply hK;clear K' hK;apply aG
   simp[au,aF,Post,bC,res1,bF,bg,aP,bf,aW,okT,okA,ok1,rowOf,Tryz.f10];first | exact .inl hb | exact .inr (.inl ⟨n1,n2⟩) | exact .inr (.inr ⟨n3,n4⟩) | exact⟨hb',fun _=>by omega,fun _=>by omega⟩
  ·have m2:¬(L.length:Int)≤100:=(by omega);by_cases n3:15<t.length
   ·have m3:(15:Int)<t.length:=(by omega);by_cases n4:t.length≤200
    ·have m4:(t.length:Int)≤200:=(by omega);simp[hb',n1,n2,m1,m2,n3,n4,m3,m4];apply hK;clear K' hK;apply aG
     simp[au,aF,Post,bC,res1,bF,bg,aP,bf,aW,okT,okA,ok1,rowOf,Tryz.f10];first | exact .inl hb | exact .inr (.inl ⟨n1,n2⟩) | exact .inr (.inr ⟨n3,n4⟩) | exact⟨hb',fun _=>by omega,fun _=>by omega⟩
    ·have m4:¬(t.length:Int)≤200:=(by omega);simp[hb',n1,n2,m1,m2,n3,n4,m3,m4];apply hK;clear K' hK;apply aG
     simp[au,aF,Post,bC,res1,bF,bg,aP,bf,aW,okT,okA,ok1,rowOf,Tryz.f10];first | exact .inl hb | exact .inr (.inl ⟨n1,n2⟩) | exact .inr (.inr ⟨n3,n4⟩) | exact⟨hb',fun _=>by omega,fun _=>by omega⟩
   ·have m3:¬(15:Int)<t.length:=(by omega);simp[hb',n1,n2,m1,m2,n3,m3];apply hK;clear K' hK;apply aG
    simp[au,aF,Post,bC,res1,bF,bg,aP,bf,aW,okT,okA,ok1,rowOf,Tryz.f10];first | exact .inl hb | exact .inr (.inl ⟨n1,n2⟩) | exact .inr (.inr ⟨n3,n4⟩) | exact⟨hb',fun _=>by omega,fun _=>by omega⟩
 ·have m1:¬(10:Int)<L.length:=(by omega);by_cases n3:15<t.length
  ·have m3:(15:Int)<t.length:=(by omega);by_cases n4:t.length≤200
   ·have m4:(t.length:Int)≤200:=(by omega);simp[hb',n1,m1,n3,n4,m3,m4];apply hK;clear K' hK;apply aG
    simp[au,aF,Post,bC,res1,bF,bg,aP,bf,aW,okT,okA,ok1,rowOf,Tryz.f10];first | exact .inl hb | exact .inr (.inl ⟨n1,n2⟩) | exact .inr (.inr ⟨n3,n4⟩) | exact⟨hb',fun _=>by omega,fun _=>by omega⟩
   ·have m4:¬(t.length:Int)≤200:=(by omega);simp[hb',n1,m1,n3,n4,m3,m4];apply hK;clear K' hK;apply aG
    simp[au,aF,Post,bC,res1,bF,bg,aP,bf,aW,okT,okA,ok1,rowOf,Tryz.f10];first | exact .inl hb | exact .inr (.inl ⟨n1,n2⟩) | exact .inr (.inr ⟨n3,n4⟩) | exact⟨hb',fun _=>by omega,fun _=>by omega⟩
  ·have m3:¬(15:Int)<t.length:=(by omega);simp[hb',n1,m1,n3,m3];apply hK;clear K' hK;apply aG
   simp[au,aF,Post,bC,res1,bF,bg,aP,bf,aW,okT,okA,ok1,rowOf,Tryz.f10];first | exact .inl hb | exact .inr (.inl ⟨n1,n2⟩) | exact .inr (.inr ⟨n3,n4⟩) | exact⟨hb',fun _=>by omega,fun _=>by omega⟩
theorem lJ {root:Man} {L:List Man} {t:List Pl} (h:jv root L t=false):gy root L t∧t.length≤1000∧(dO L=0→L.length≤12):=by
 unfold jv at h;rw[Bool.or_eq_false_iff,Bool.or_eq_false_iff,decide_eq_false_iff_not,decide_eq_false_iff_not]at h;obtain⟨h1,h2,h3⟩:=h;obtain⟨b1,b2,b3⟩:=Tj h1;refine⟨Bl b1 b2 b3,by have:=(Af b3).1;omega,fun hi=> ?_⟩;have:L.length≤100:=by
  unfold dO at hi;split at hi
  ·omega
  ·omega
 omega
def C9 (root:Man) (L:List Man) (t:List Pl):Bool:=decide ((growS root L t).2=0)&&decide (60<(growS root L t).1.length)
theorem yh (root:Man) (L:List Man) (t:List Pl) (hsz:gy root L t) (h12:dO L=0→L.length≤12) (htl:t.length≤1000):CallsOK Tryz.prog 33 [.agg root.cells,rowT Man.cells L,rowT Pl.cells t] (bV (C9 root L t)) []:=by
 have hG:=Ld root L t hsz h12 htl;have hO:ig root L t=if(growS root L t).2=0 then(.tup [rowT Pl.cells (growS root L t).1,iV 0],[])else(.tup [.row 0 0,iV (growS root L t).2],[(50,[])]):=rfl;unfold C9;refine aO mixed Tryz.call33 Tryz.func33 rfl (by rw[Tryz.ntmps33];simp) ?_ rfl;rw[Tryz.ntmps33];generalize growS root L t=gs at*;generalize ig root L t=go at*;refine aR fun K' hK=> ?_
 simp;apply hK;clear K' hK;by_cases h:gs.2=0
 ·rw[if_pos h]at hO;subst hO;refine aR fun K' hK=> ?_
  simp;refine aN hG (by first | rfl | (simp;done) | (simp;rfl) | (simp;exact⟨rfl,rfl⟩)) ?_;rw[pK];simp[dG];apply hK;clear K' hK;by_cases n1:60<gs.1.length
  ·have m1:(60:Int)<gs.1.length:=(by omega);refine aR fun K' hK=> ?_
   simp[h,n1,m1];apply hK;clear K' hK;apply aG
   simp[au,aF,Post,bC,res1,bF,bg,aP,bf,aW,okT,okA,ok1,rowOf,Tryz.f33,h,n1]
  ·have m1:¬(60:Int)<gs.1.length:=(by omega);refine aR fun K' hK=> ?_
   simp[h,n1,m1];apply hK;clear K' hK;apply aG
   simp[au,aF,Post,bC,res1,bF,bg,aP,bf,aW,okT,okA,ok1,rowOf,Tryz.f33,h,n1]
 ·rw[if_neg h]at hO;subst hO;refine aR fun K' hK=> ?_
  simp;refine aN hG (by first | rfl | (simp;done) | (simp;rfl) | (simp;exact⟨rfl,rfl⟩)) ?_;simp[bH];apply hK;clear K' hK;refine aR fun K' hK=> ?_
  simp[h];apply hK;clear K' hK;apply aG
  simp[au,aF,Post,bC,res1,bF,bg,aP,bf,aW,okT,okA,ok1,rowOf,Tryz.f33,h]
theorem DV {root:Man} {L:List Man} {n:Nat} :∀(l:List Dep) {t:List Pl},codeV root L t=0→n<t.length→(∀d∈l,d∈edgesV root L t n)→gy root L t→(eu root L n l t).2=0→gy root L (eu root L n l t).1
 | [],t,_,_,_,hsz,_=>hsz
 | d::l,t,hc,hn,hm,hsz,h=>by
  unfold eu at h⊢;by_cases h1:(dY root L n d t).2=0
  ·rw[if_pos h1]at h⊢;obtain⟨e1,e2⟩:=rV hc hn h1;have hl:=e1.len;have hm2:∀x∈l,x∈edgesV root L (dY root L n d t).1 n:=fun x hx=>(by rw[e1.edges n hn];exact hm x (by simp[hx]));exact DV l e1.code (by omega) hm2 (ER hsz (vM hc) (jZ hsz.1 hsz.2.2.1 d (hm d (by simp))).2 h1) h
  ·rw[if_neg h1]at h;exact(h1 h).elim
theorem Ej {root:Man} {L:List Man} :∀(k n:Nat) {t:List Pl},codeV root L t=0→gy root L t→(jg root L k n t).2=0→gy root L (jg root L k n t).1
 | 0,n,t,_,hsz,_=>hsz
 | k+1,n,t,hc,hsz,h=>by
  unfold jg at h⊢;by_cases hn:n<t.length
  ·rw[if_pos hn]at h⊢;by_cases hm:(manVal root L t n).isSome=true
   ·rw[if_pos hm]at h⊢;by_cases he:(eu root L n (edgesV root L t n) t).2=0
    ·rw[if_pos he]at h⊢;exact Ej k (n+1) (rP (edgesV root L t n) hc hn (fun _ h=>h) he).1.code (DV _ hc hn (fun _ h=>h) hsz he) h
    ·rw[if_neg he]at h;exact(he h).elim
   ·rw[if_neg hm]at h;cases h
  ·rw[if_neg hn]at h⊢;exact hsz
theorem Aw {root:Man} {L:List Man} {t:List Pl} (h:(growS root L t).2=0) (hsz:gy root L t):gy root L (growS root L t).1∧codeV root L (growS root L t).1=0∧(growS root L t).1.length≤200:=by
 unfold growS at h⊢;by_cases hc:codeV root L t=0
 ·rw[if_pos hc]at h⊢;have:=(AB 201 0 (by omega) hc (fun j hj=>absurd hj (Nat.not_lt_zero j)) h).1.code;exact⟨Ej 201 0 hc hsz h,this,vM this⟩
 ·rw[if_neg hc]at h;exact(hc h).elim
theorem vP {root:Man} {L:List Man} {t:List Pl} (h:(growS root L t).2=0):ig root L t=(.tup [rowT Pl.cells (growS root L t).1,iV 0],[]):=by unfold ig;rw[if_pos h]
theorem vS {root:Man} {L:List Man} {t:List Pl} (h:¬(growS root L t).2=0):ig root L t=(.tup [.row 0 0,iV (growS root L t).2],[(50,[])]):=by unfold ig;rw[if_neg h]
theorem Ia {root:Man} {L:List Man} {t:List Pl} (hsz:gy root L t):gy root L [rootP]:=⟨hsz.1,hsz.2.1,hsz.2.2.1,hsz.2.2.2.1,IQ (by decide+kernel),fun p hp=>by simp at hp;subst hp;decide⟩
set_option maxRecDepth 100000
set_option maxHeartbeats 4000000
theorem spots3_ok (hB:CallsOK Tryz.prog 14 [] (bV true) []) (root:Man) (L:List Man) (t:List Pl) (n:Int) (d:Dep) (v:Ver) (hl:L.length≤9223372036854775807) (htl:t.length≤9223372036854775807):CallsOK Tryz.prog 3 [.agg root.cells,rowT Man.cells L,rowT Pl.cells t,iV n,.agg d.cells,.agg v.cells] (bV true) []:=by
 refine aO mixed Tryz.call3 Tryz.func3 rfl (by rw[Tryz.ntmps3];simp) ?_ rfl;rw[Tryz.ntmps3];refine aR fun K' hK=> ?_
 simp;apply hK;clear K' hK;apply aA;refine aR fun K' hK=> ?_
 simp;refine aj (ku root L t hl htl) rfl (by first | rfl | (simp;done) | (simp;rfl) | (simp;exact⟨rfl,rfl⟩)) ?_;by_cases hg:jv root L t=true
 ·simp[hg];apply hK;clear K' hK;refine aX (by simp) ?_;apply aA;refine aR fun K' hK=> ?_
  simp;apply hK;clear K' hK;apply aJ
  simp[au,aF,Post,bC,res1,bF,bg,aP,bf,aW,okT,okA,ok1,rowOf,Tryz.f3]
 have hg':jv root L t=false:=(by simpa using hg);obtain⟨hsz,hl1,h12⟩:=lJ hg';by_cases n1:300<d.name.size
 ·have m1:(300:Int)<d.name.size:=(by omega);simp[hg',n1,m1];apply hK;clear K' hK;refine aX (by simp) ?_;apply aA;refine aR fun K' hK=> ?_
  simp;apply hK;clear K' hK;apply aJ
  simp[au,aF,Post,bC,res1,bF,bg,aP,bf,aW,okT,okA,ok1,rowOf,Tryz.f3]
 have m1:¬(300:Int)<d.name.size:=(by omega);simp[hg',n1,m1];refine aj (vO d.range) rfl (by first | rfl | (simp;done) | (simp;rfl) | (simp;exact⟨rfl,rfl⟩)) ?_;by_cases hr:Et d.range=true
 ·simp[hr];apply hK;clear K' hK;refine aX (by simp) ?_;apply aA;refine aR fun K' hK=> ?_
  simp;apply hK;clear K' hK;apply aJ
  simp[au,aF,Post,bC,res1,bF,bg,aP,bf,aW,okT,okA,ok1,rowOf,Tryz.f3]
 have hr':Et d.range=false:=(by simpa using hr);simp[hr'];refine aj (BF v) rfl (by first | rfl | (simp;done) | (simp;rfl) | (simp;exact⟨rfl,rfl⟩)) ?_;by_cases hv:JE v=true
 ·simp[hv];apply hK;clear K' hK;refine aX (by simp) ?_;apply aA;refine aR fun K' hK=> ?_
  simp;apply hK;clear K' hK;apply aJ
  simp[au,aF,Post,bC,res1,bF,bg,aP,bf,aW,okT,okA,ok1,rowOf,Tryz.f3]
 have hv':JE v=false:=(by simpa using hv);simp[hv'];apply hK;clear K' hK;refine aYk (by simp) ?_
 have hv2:v.pre.size≤300:=(by simpa [JE]using hv');have c50:Tryz.prog.cellsOf 50=6:=(by kernel_rfl);refine aR fun K' hK=> ?_
 simp;refine aN (zV t (by omega)) (by first | rfl | (simp;done) | (simp;rfl) | (simp;exact⟨rfl,rfl⟩)) ?_;simp[bH];apply hK;clear K' hK;refine fO (fun u X nz=>u 1=rowT Man.cells L∧u 2=rowT Pl.cells t∧u 3=iV n∧u 6=.ptr 0 0∧u 10=.ptr 1 0∧u 11=.ptr 2 0∧u 13=.row 3 t.length∧nz=4∧X 0=some (.var 27 root.cells)∧X 1=some (.var 35 d.cells)∧X 2=some (.var 23 v.cells)∧X 3=some (.row 50 (flat Pl.cells t))) ?_ ?_
 ·exact⟨by simp,by simp,by simp,by simp,by simp,by simp,by simp,by simp,by simp,by simp,by simp,by simp⟩
 clear hg hg' hr hr' hv hv' m1;rintro s G nx ⟨s1,s2,s3,s6,s10,s11,s13,rfl,g0,g1,g2,g3⟩;have hT:=dU (P:=Tryz.prog) g3 c50 rfl;have hP:=su root L t hsz n d v (by omega) (by omega);have hQ:=LH root L t hsz n d v (by omega) (by omega);have hS:=qJ t t (by omega);refine aQ fun K' hK=> ?_
 simp[s1,s2,s3,s6,s10,s11,s13,g0,g1,g2];refine aj hB rfl (by first | rfl | (simp;done) | (simp;rfl) | (simp;exact⟨rfl,rfl⟩)) ?_;simp[s1,s2,s3,s6,s10,s11,s13,g0,g1,g2];refine aj hP rfl (by first | rfl | (simp;done) | (simp;rfl) | (simp;exact⟨rfl,rfl⟩)) ?_;simp[s1,s2,s3,s6,s10,s11,s13,g0,g1,g2];refine aj hQ rfl (by first | rfl | (simp[hT];done) | (simp[hT];rfl) | (simp[hT];exact⟨rfl,rfl⟩)) ?_;simp[s1,s2,s3,s6,s10,s11,s13,g0,g1,g2];refine aj hS rfl (by first | rfl | (simp[hT];done) | (simp[hT];rfl) | (simp[hT];exact⟨rfl,rfl⟩)) ?_;simp;apply hK;clear K' hK;apply aG
 simp[au,aF,Post,bC,res1,bF,bg,aP,bf,aW,okT,okA,ok1,rowOf,Tryz.f3]
set_option maxRecDepth 100000
set_option maxHeartbeats 4000000
theorem valid8_ok (hB:CallsOK Tryz.prog 14 [] (bV true) []) (root:Man) (L:List Man) (t:List Pl) (hl:L.length≤9223372036854775807) (htl:t.length≤9223372036854775807):CallsOK Tryz.prog 8 [.agg root.cells,rowT Man.cells L,rowT Pl.cells t] (bV true) []:=by
 refine aO mixed Tryz.call8 Tryz.func8 rfl (by rw[Tryz.ntmps8];simp) ?_ rfl;rw[Tryz.ntmps8];refine aR fun K' hK=> ?_
 simp;apply hK;clear K' hK;apply aA;refine aR fun K' hK=> ?_
 simp;refine aj (ku root L t hl htl) rfl (by first | rfl | (simp;done) | (simp;rfl) | (simp;exact⟨rfl,rfl⟩)) ?_;by_cases hg:jv root L t=true
 ·simp[hg];apply hK;clear K' hK;refine aX (by simp) ?_;apply aA;refine aR fun K' hK=> ?_
  simp;apply hK;clear K' hK;apply aJ
  simp[au,aF,Post,bC,res1,bF,bg,aP,bf,aW,okT,okA,ok1,rowOf,Tryz.f8]
 have hg':jv root L t=false:=(by simpa using hg);obtain⟨hsz,hl1,h12⟩:=lJ hg';simp[hg'];refine aj (yh root L t hsz h12 hl1) rfl (by first | rfl | (simp;done) | (simp;rfl) | (simp;exact⟨rfl,rfl⟩)) ?_;by_cases hw:C9 root L t=true
 ·simp[hw];apply hK;clear K' hK;refine aX (by simp) ?_;apply aA;refine aR fun K' hK=> ?_
  simp;apply hK;clear K' hK;apply aJ
  simp[au,aF,Post,bC,res1,bF,bg,aP,bf,aW,okT,okA,ok1,rowOf,Tryz.f8]
 have hw':C9 root L t=false:=(by simpa using hw);simp[hw'];apply hK;clear K' hK;refine aYk (by simp) ?_
 obtain⟨a,b,c,e,_⟩:=id hsz;have hU:=lK root L a b c e h12;have hG:=qC root L t hsz h12 hl1;have hz1:=fun h=>Aw (root:=root) (L:=L) (t:=[rootP]) h (Ia hsz);have hz2:=fun h=>Aw (root:=root) (L:=L) (t:=t) h hsz;have hv1:=fun h=>(uz (root:=root) (L:=L) (t:=[rootP]) h).1;have hv2:=fun h=>uz (root:=root) (L:=L) (t:=t) h;have gB1:=fun h=>vP (root:=root) (L:=L) (t:=[rootP]) h;have gN1:=fun h=>vS (root:=root) (L:=L) (t:=[rootP]) h;have gB2:=fun h=>vP (root:=root) (L:=L) (t:=t) h;have gN2:=fun h=>vS (root:=root) (L:=L) (t:=t) h;clear hg hg' hw hw' a b c e;generalize ig root L [rootP]=o1 at*;generalize ig root L t=o2 at*;generalize growS root L [rootP]=r1 at*;generalize growS root L t=r2 at*;obtain⟨u1,c1⟩:=r1;obtain⟨u2,c2⟩:=r2;refine eP (fun u X nz=>u 1=rowT Man.cells L∧u 2=rowT Pl.cells t∧u 3=.ptr 0 0∧X 0=some (.var 27 root.cells)∧0<nz∧u 8=iV c1∧(c1=0→u 7=rowT Pl.cells u1)) ?_ ?_
 ·by_cases c:c1=0
  ·have gB1:=gB1 c;subst gB1;refine aS fun K' hK=> ?_
   simp;refine aN hU (by first | rfl | (simp;done) | (simp;rfl) | (simp;exact⟨rfl,rfl⟩)) ?_;rw[pK];simp[dG];apply hK;clear K' hK;with_reducible refine bP ?_
   exact⟨by simp,by simp,by simp,by simp,by omega,by simp[c],fun _=>by simp⟩
  ·have gN1:=gN1 c;subst gN1;refine aS fun K' hK=> ?_
   simp;refine aN hU (by first | rfl | (simp;done) | (simp;rfl) | (simp;exact⟨rfl,rfl⟩)) ?_;simp[bH];apply hK;clear K' hK;with_reducible refine bP ?_
   exact⟨by simp,by simp,by simp,by simp,by omega,by simp,fun h=>absurd h c⟩
 clear hU gB1 gN1;rintro s G nx ⟨s1,s2,s3,g0,hnx,s8,s7⟩;have n0:¬0=nx:=(by omega);refine eP (fun u X nz=>u 1=rowT Man.cells L∧u 2=rowT Pl.cells t∧u 3=.ptr 0 0∧X 0=some (.var 27 root.cells)∧0<nz∧u 8=iV c1∧(c1=0→u 7=rowT Pl.cells u1)∧u 10=iV c2∧(c2=0→u 9=rowT Pl.cells u2)∧(c2≠0→∃i,u 9=.row i 0∧X i=some (.row 50 []))) ?_ ?_
 ·by_cases c:c2=0
  ·have gB2:=gB2 c;subst gB2;refine aS fun K' hK=> ?_
   simp[s1,s2,s3,g0];refine aN hG (by first | rfl | (simp;done) | (simp;rfl) | (simp;exact⟨rfl,rfl⟩)) ?_;rw[pK];simp[dG];apply hK;clear K' hK;with_reducible refine bP ?_
   exact⟨by simp[s1],by simp[s2],by simp[s3],by simp[g0],by omega,by simp[s8],fun h=>by simp[s7 h],by simp[c],fun _=>by simp,fun h=>absurd c h⟩
  ·have gN2:=gN2 c;subst gN2;refine aS fun K' hK=> ?_
   simp[s1,s2,s3,g0];refine aN hG (by first | rfl | (simp;done) | (simp;rfl) | (simp;exact⟨rfl,rfl⟩)) ?_;simp[bH];apply hK;clear K' hK;with_reducible refine bP ?_
   exact⟨by simp[s1],by simp[s2],by simp[s3],by simp[g0,n0],by omega,by simp[s8],fun h=>by simp[s7 h],by simp,fun h=>absurd h c,fun _=>⟨nx,by simp,by simp⟩⟩
 clear hG gB2 gN2 s1 s2 s3 g0 s8 s7 hnx n0 s G;rintro s G nx ⟨s1,s2,s3,g0,hnx,s8,s7,s10,s9,s9'⟩;apply aA
 refine eP (fun u X nz=>u 1=rowT Man.cells L∧u 2=rowT Pl.cells t∧u 3=.ptr 0 0∧X 0=some (.var 27 root.cells)∧u 42=bV false∧u 10=iV c2∧(c2=0→u 9=rowT Pl.cells u2)∧(c2≠0→∃i,u 9=.row i 0∧X i=some (.row 50 []))) ?_ ?_
 ·by_cases c:c1=0
  ·have s7:=s7 c;have hv:=hv1 c;have hV:=sG root L u1 (hz1 c).1;simp at hv;refine aS fun K' hK=> ?_
   simp[s1,s2,s3,s7,s8,c,g0];refine aj hV rfl (by first | rfl | (simp;done) | (simp;rfl) | (simp;exact⟨rfl,rfl⟩)) ?_;simp[hv];apply hK;clear K' hK;with_reducible refine bP ?_
   exact⟨by simp[s1],by simp[s2],by simp[s3],by simp[g0],by simp,by simp[s10],fun h=>by simp[s9 h],fun h=>by obtain⟨i,h1,h2⟩:=s9' h;exact⟨i,by simp[h1],by simp[h2]⟩⟩
  ·skip;refine aS fun K' hK=> ?_
   simp[s8,c];apply hK;clear K' hK;with_reducible refine bP ?_
   exact⟨by simp[s1],by simp[s2],by simp[s3],by simp[g0],by simp,by simp[s10],fun h=>by simp[s9 h],fun h=>by obtain⟨i,h1,h2⟩:=s9' h;exact⟨i,by simp[h1],by simp[h2]⟩⟩
 clear s1 s2 s3 g0 s8 s7 s10 s9 s9' hnx s G hz1 hv1;rintro s G nx ⟨s1,s2,s3,g0,s42,s10,s9,s9'⟩;refine aYk (by simp[s42]) ?_
 by_cases c:c2=0
 ·have s9:=s9 c;obtain⟨hv,hlen,htk⟩:=hv2 c;simp at hv hlen htk;have hlen':(t.length:Int)≤u2.length:=(by omega);have hV:=sG root L u2 (hz2 c).1;have hS:=qJ t t (by omega);apply aA;refine aR fun K' hK=> ?_
  simp[s10,c];apply hK;clear K' hK;refine aYk (by simp) ?_;refine aR fun K' hK=> ?_
  simp;refine aj hB rfl (by first | rfl | (simp;done) | (simp;rfl) | (simp;exact⟨rfl,rfl⟩)) ?_;simp[s1,s2,s3,s9,g0];refine aj hV rfl (by first | rfl | (simp;done) | (simp;rfl) | (simp;exact⟨rfl,rfl⟩)) ?_;simp[s1,s2,s3,s9,g0,hv,hlen,hlen',iW,htk];refine aj hS rfl (by first | rfl | (simp;done) | (simp;rfl) | (simp;exact⟨rfl,rfl⟩)) ?_;simp;apply hK;clear K' hK;apply aG
  simp[au,aF,Post,bC,res1,bF,bg,aP,bf,aW,okT,okA,ok1,rowOf,Tryz.f8]
 ·obtain⟨i,h9,gi⟩:=s9' c;apply aA;refine aR fun K' hK=> ?_
  simp[s10,c];apply hK;clear K' hK;refine aX (by simp) ?_;apply aA;refine aR fun K' hK=> ?_
  simp;refine aj hB rfl (by first | rfl | (simp;done) | (simp;rfl) | (simp;exact⟨rfl,rfl⟩)) ?_;simp[h9,gi];apply hK;clear K' hK;apply aJ
  simp[au,aF,Post,bC,res1,bF,bg,aP,bf,aW,okT,okA,ok1,rowOf,Tryz.f8]
set_option maxRecDepth 100000
set_option maxHeartbeats 1000000
theorem none5_ok (hB:CallsOK Tryz.prog 14 [] (bV true) []) (root:Man) (L:List Man) (hl:L.length≤9223372036854775807):CallsOK Tryz.prog 5 [.agg root.cells,rowT Man.cells L] (bV true) []:=by
 refine aO mixed Tryz.call5 Tryz.func5 rfl (by rw[Tryz.ntmps5];simp) ?_ rfl;rw[Tryz.ntmps5];have hLg:CallsOK Tryz.prog 10 [.agg root.cells,rowT Man.cells L,.v (.slice none 0 0)] (bV (jv root L [])) []:=(ku root L [] hl (by simp)).weak (.cons (.refl _) (.cons (.refl _) (.cons .nilRow .nil)));refine aR fun K' hK=> ?_
 simp;apply hK;clear K' hK;apply aA;refine aR fun K' hK=> ?_
 simp;refine aj hLg rfl (by first | rfl | (simp;done) | (simp;rfl) | (simp;exact⟨rfl,rfl⟩)) ?_;by_cases hg:jv root L []=true
 ·simp[hg];apply hK;clear K' hK;refine aX (by simp) ?_;apply aA;refine aR fun K' hK=> ?_
  simp;apply hK;clear K' hK;apply aJ
  simp[au,aF,Post,bC,res1,bF,bg,aP,bf,aW,okT,okA,ok1,rowOf,Tryz.f5]
 have hg':jv root L []=false:=(by simpa using hg);obtain⟨hsz,hl1,h12⟩:=lJ hg';obtain⟨a,b,c,e,_⟩:=id hsz;simp[hg'];refine aj (pX root a true) rfl (by first | rfl | (simp;done) | (simp;rfl) | (simp;exact⟨rfl,rfl⟩)) ?_;by_cases h1:dL root true=0
 ·simp[h1];refine aj (wL L c) rfl (by first | rfl | (simp;done) | (simp;rfl) | (simp;exact⟨rfl,rfl⟩)) ?_;by_cases h2:dO L=0
  ·simp[h2];apply hK;clear K' hK;refine aYk (by simp) ?_
   have h12:=h12 h2;have hU:=lK root L a b c e (fun _=>h12);have hbn:=fun(d:Dep) hd hk hb=>Kq (root:=root) (L:=L) h1 h2 (d:=d) hd hk hb;have hOf:=sH root root.rules true b.1 b.2;have hEl:(ofF root.deps root.rules true).length≤1000000000:=nJ a.2.2.1.1;have hEz:∀d∈ofF root.deps root.rules true,Rg.sz d.range∧d.name.size≤1000000:=fun d hd=>jZ (root:=root) (L:=L) (t:=[rootP]) (n:=0) a c d (by rw[y9 (dM.1 sW)];exact hd);generalize ofF root.deps root.rules true=E at*;clear hg hg' hLg h1;refine aR fun K' hK=> ?_
   simp;refine aN hOf (by first | rfl | (simp;done) | (simp;rfl) | (simp;exact⟨rfl,rfl⟩)) ?_;simp[bH];apply hK;clear K' hK;apply aA;refine aR fun K' hK=> ?_
   simp;apply hK;clear K' hK;apply aB
   refine bI (fun s G nx=>s 1=rowT Man.cells L∧s 2=.ptr 0 0∧G 0=some (.var 27 root.cells)∧1<nx∧s 5=.row 1 E.length∧G 1=some (.row 35 (flat Dep.cells E))∧∃i:Nat,s 6=iV i∧i≤E.length) (fun s _ _=>match s 6 with | .v (.int _ n)=>E.length-n.toNat | _=>0) ?_ ?_
   ·exact⟨by simp,by simp,by simp,by omega,by simp,by simp,0,by simp,by omega⟩
   rintro s G nx-⟨s1,s2,g0,hnx,s5,g1,i,s6,hi⟩;have o6:=s6;have hw:IntKind.i64.wrap (↑i+1)=((i+1:Nat):Int):=dw (by omega);apply aA;refine aR fun K' hK=> ?_
   simp[s5,s6,g1];apply hK;clear K' hK;refine aC fun A B hA hB=> ?_
   simp;refine⟨fun hi2=>hA ?_,fun hi2=>hB ?_⟩<;>clear hA hB A B<;>(try simp at hi2)<;>(try with_reducible refine aK ?_)
   ·obtain⟨hdr,hdn⟩:=hEz _ (bK hi2);have hbn:=hbn _ (bK hi2);generalize hgd:nth E i=d at*;have hV:=Ci L c.1 d.name;obtain⟨hvz,hvl⟩:=Ar c h12 d.name;have hvu:=Gt h2 d.name;have hBe:=BP (fP L d.name) hvz hvl hvu d.range hdr;generalize hvs:fP L d.name=vs at*;generalize hbv:nG vs d.range=bo at*;have n0:¬0=nx:=(by omega);have n1:¬1=nx:=(by omega);have n01:¬0=nx+1:=(by omega);have nz0:¬nx=0:=(by omega);have hT0:bM Tryz.prog (G.upd nx (.row 23 (flat Ver.cells vs))) (.row nx vs.length)=some (rowT Ver.cells vs):=dU (by simp) jR rfl;apply aB
    refine eP (fun u X nz=>u 1=rowT Man.cells L∧u 2=.ptr 0 0∧X 0=some (.var 27 root.cells)∧1<nz∧u 5=.row 1 E.length∧X 1=some (.row 35 (flat Dep.cells E))∧u 6=iV i∧u 8=bV bo.isSome) ?_ ?_
    ·by_cases hv0:vs=[]
     ·subst hv0;have hbn:bo=none:=(by rw[←hbv];rfl);subst hbn;have hB2:CallsOK Tryz.prog 27 [.v (.slice none 0 0),.agg d.range.cells] (oW none) []:=hBe.weak (.cons .nilRow (.cons (.refl _) .nil));refine dJ ?_
      refine eY none [] (by decide+kernel) (by decide+kernel) (fun p' hp'=>by cases hp') fun K' hK=> ?_;simp[s1,s5,s6,g1,hi2,hgd];refine aN hV (by first | rfl | (simp;done) | (simp;rfl) | (simp;exact⟨rfl,rfl⟩)) ?_;simp[lS,dG,s5,s6,g1,hi2,hgd];refine aN hB2 (by first | rfl | (simp;done) | (simp;rfl) | (simp;exact⟨rfl,rfl⟩)) ?_;simp[oW,dG];apply hK;clear K' hK;with_reducible refine bP ?_
      exact⟨by simp[s1],by simp[s2],by simp[g0,n0],by omega,by simp[s5],by simp[g1,n1],by simp[s6],by simp⟩
     ·have hvR:lS vs=(.row 0 vs.length,[(23,flat Ver.cells vs)]):=(by unfold lS;rw[if_neg hv0]);rw[hvR]at hV;refine dJ ?_
      refine eY none [] (by decide+kernel) (by decide+kernel) (fun p' hp'=>by cases hp') fun K' hK=> ?_;simp[s1,s5,s6,g1,hi2,hgd];refine aN hV (by first | rfl | (simp;done) | (simp;rfl) | (simp;exact⟨rfl,rfl⟩)) ?_;simp[bH,s5,s6,g1,hi2,hgd,n1];refine aN hBe (by first | rfl | (simp[hT0];done) | (simp[hT0];rfl) | (simp[hT0];exact⟨rfl,rfl⟩)) ?_;have f0:bU (G.upd nx (.row 23 (flat Ver.cells vs))) (.row nx vs.length) 0=some (.var 27 root.cells):=(by rw[dP (by omega),Hp.upd_ne _ _ n0];exact g0);have f1:bU (G.upd nx (.row 23 (flat Ver.cells vs))) (.row nx vs.length) 1=some (.row 35 (flat Dep.cells E)):=(by rw[dP (by omega),Hp.upd_ne _ _ n1];exact g1);cases bo with
      | none=>
       simp[oW,dG,hT0];apply hK;clear K' hK;with_reducible refine bP ?_
       exact⟨by simp[s1],by simp[s2],by simp[f0,n01],by omega,by simp[s5],by simp[f1,nz0],by simp[s6],by simp⟩
      | some v=>
       have hsh:∀k,List.map (uH k) v.cells=v.cells:=fun k=>rfl;simp[oW,dG,hT0,hsh];apply hK;clear K' hK;with_reducible refine bP ?_
       exact⟨by simp[s1],by simp[s2],by simp[f0,n01],by omega,by simp[s5],by simp[f1,nz0],by simp[s6],by simp⟩
    clear s1 s2 g0 s5 g1 s6 hnx hT0 hV hBe n0 n1 n01 nz0;rintro s G nx ⟨s1,s2,g0,hnx,s5,g1,s6,s8⟩;by_cases hq:bo=none∧d.kind≠3
    ·obtain⟨hb0,hk⟩:=hq;subst hb0;have hgr:=hbn hk rfl;have hO:=vS (root:=root) (L:=L) (t:=[rootP]) (by rw[hgr];decide);rw[hgr]at hO;rw[hO]at hU;refine aR fun K' hK=> ?_
     simp[s5,s6,g1,hi2,hgd];refine aj (tu d) rfl (by first | rfl | (simp;done) | (simp;rfl) | (simp;exact⟨rfl,rfl⟩)) ?_;simp[hk,s8];apply hK;clear K' hK;refine aU (by simp) ?_;apply aA;refine aR fun K' hK=> ?_
     simp[s1,s2,g0];refine aN hU (by first | rfl | (simp;done) | (simp;rfl) | (simp;exact⟨rfl,rfl⟩)) ?_;simp[bH];apply hK;clear K' hK;apply aA;refine aR fun K' hK=> ?_
     simp;refine aj hB rfl (by first | rfl | (simp;done) | (simp;rfl) | (simp;exact⟨rfl,rfl⟩)) ?_;simp;apply hK;clear K' hK;apply aJ
     simp[au,aF,Post,bC,res1,bF,bg,aP,bf,aW,okT,okA,ok1,rowOf,Tryz.f5]
    ·have hk:d.kind=3∨bo.isSome=true:=(by cases bo<;>simp at hq⊢;exact hq);refine aR fun K' hK=> ?_
     simp[s5,s6,g1,hi2,hgd];refine aj (tu d) rfl (by first | rfl | (simp;done) | (simp;rfl) | (simp;exact⟨rfl,rfl⟩)) ?_;by_cases h3:d.kind=3
     ·simp[h3];apply hK;clear K' hK;refine aVk (by simp) ?_;apply ak
      refine ah ?_;refine aS fun K' hK=> ?_
      simp[s6,hw];apply hK;clear K' hK;refine ak (ay ?_ ?_)
      ·exact⟨by simp[s1],by simp[s2],by simp[g0],by omega,by simp[s5],by simp[g1],i+1,by simp[hw],by omega⟩
      ·simp[o6,s6,hw];omega
     ·have hs:=hk.resolve_left h3;simp[h3,s8,hs];apply hK;clear K' hK;refine aVk (by simp) ?_;apply ak
      refine ah ?_;refine aS fun K' hK=> ?_
      simp[s6,hw];apply hK;clear K' hK;refine ak (ay ?_ ?_)
      ·exact⟨by simp[s1],by simp[s2],by simp[g0],by omega,by simp[s5],by simp[g1],i+1,by simp[hw],by omega⟩
      ·simp[o6,s6,hw];omega
   ·skip;apply bG
    refine aI (aH ?_);refine aR fun K' hK=> ?_
    simp;refine aj hB rfl (by first | rfl | (simp;done) | (simp;rfl) | (simp;exact⟨rfl,rfl⟩)) ?_;simp;apply hK;clear K' hK;apply aG
    simp[au,aF,Post,bC,res1,bF,bg,aP,bf,aW,okT,okA,ok1,rowOf,Tryz.f5]
  ·simp[h2];apply hK;clear K' hK;refine aX (by simp) ?_;apply aA;refine aR fun K' hK=> ?_
   simp;apply hK;clear K' hK;apply aJ
   simp[au,aF,Post,bC,res1,bF,bg,aP,bf,aW,okT,okA,ok1,rowOf,Tryz.f5]
 ·simp[h1];apply hK;clear K' hK;refine aX (by simp) ?_;apply aA;refine aR fun K' hK=> ?_
  simp;apply hK;clear K' hK;apply aJ
  simp[au,aF,Post,bC,res1,bF,bg,aP,bf,aW,okT,okA,ok1,rowOf,Tryz.f5]
set_option maxRecDepth 100000
set_option maxHeartbeats 1000000
theorem Lu {root:Man} {L:List Man} {t u:List Pl} (hc:codeV root L t=0) (hc2:codeV root L u=0) (hl:u.length=t.length+1) (hf:∀j:Nat,j<t.length→gB root L t j=true→gB root L u j=true):∀x∈iL root L u,x=t.length∨x∈iL root L t:=by
 intro x hx;have g:Good t:=dM.1 (dA.1 hc).2.2;have gu:Good u:=dM.1 (dA.1 hc2).2.2;unfold iL at hx⊢;rw[if_pos hc2]at hx;rw[if_pos hc];unfold jP at hx⊢;obtain⟨h1,h2⟩:=List.mem_filter.1 hx;rw[Iq gu]at h1;obtain⟨j,hj,rfl⟩:=List.mem_map.1 h1;have hj:=List.mem_range.1 hj;by_cases he:j=t.length
 ·exact .inl (by rw[he])
 ·refine .inr (List.mem_filter.2 ⟨xY g (by omega),?_⟩);cases hfj:gB root L t j with
  | false=>rfl
  | true=>rw[hf j (by omega) hfj]at h2;cases h2
theorem Kr.len {N:Nat} {G:Hp} {x:AV} {acc:List Int} (h:Kr N G x acc):zh Tryz.prog G 61 x=some (iV acc.length):=by
 rcases h with⟨rfl,rfl⟩ | ⟨r,rfl,_,hr⟩
 ·simp
 ·simp[hr]
theorem Kr.pos {N:Nat} {G:Hp} {x:AV} {acc:List Int} (h:Kr N G x acc) {i:Nat} (hi:i<acc.length):∃r,x=.row r acc.length∧r<N∧G r=some (.row 3 (flat iC acc)):=by
 rcases h with⟨_,rfl⟩ | h
 ·simp at hi
 ·exact h
theorem legal6_ok (hB:CallsOK Tryz.prog 14 [] (bV true) []) (root:Man) (L:List Man) (t:List Pl) (n:Int) (d:Dep) (v:Ver) (hl:L.length≤9223372036854775807) (htl:t.length≤9223372036854775807):CallsOK Tryz.prog 6 [.agg root.cells,rowT Man.cells L,rowT Pl.cells t,iV n,.agg d.cells,.agg v.cells] (bV true) []:=by
 refine aO mixed Tryz.call6 Tryz.func6 rfl (by rw[Tryz.ntmps6];simp) ?_ rfl;rw[Tryz.ntmps6];refine aR fun K' hK=> ?_
 simp;apply hK;clear K' hK;apply aA;refine aR fun K' hK=> ?_
 simp;refine aj (ku root L t hl htl) rfl (by first | rfl | (simp;done) | (simp;rfl) | (simp;exact⟨rfl,rfl⟩)) ?_;by_cases hg:jv root L t=true
 ·simp[hg];apply hK;clear K' hK;refine aX (by simp) ?_;apply aA;refine aR fun K' hK=> ?_
  simp;apply hK;clear K' hK;apply aJ
  simp[au,aF,Post,bC,res1,bF,bg,aP,bf,aW,okT,okA,ok1,rowOf,Tryz.f6]
 have hg':jv root L t=false:=(by simpa using hg);obtain⟨hsz,hl1,h12⟩:=lJ hg';by_cases n1:300<d.name.size
 ·have m1:(300:Int)<d.name.size:=(by omega);simp[hg',n1,m1];apply hK;clear K' hK;refine aX (by simp) ?_;apply aA;refine aR fun K' hK=> ?_
  simp;apply hK;clear K' hK;apply aJ
  simp[au,aF,Post,bC,res1,bF,bg,aP,bf,aW,okT,okA,ok1,rowOf,Tryz.f6]
 have m1:¬(300:Int)<d.name.size:=(by omega);simp[hg',n1,m1];refine aj (vO d.range) rfl (by first | rfl | (simp;done) | (simp;rfl) | (simp;exact⟨rfl,rfl⟩)) ?_;by_cases hr:Et d.range=true
 ·simp[hr];apply hK;clear K' hK;refine aX (by simp) ?_;apply aA;refine aR fun K' hK=> ?_
  simp;apply hK;clear K' hK;apply aJ
  simp[au,aF,Post,bC,res1,bF,bg,aP,bf,aW,okT,okA,ok1,rowOf,Tryz.f6]
 have hr':Et d.range=false:=(by simpa using hr);simp[hr'];refine aj (BF v) rfl (by first | rfl | (simp;done) | (simp;rfl) | (simp;exact⟨rfl,rfl⟩)) ?_;by_cases hv:JE v=true
 ·simp[hv];apply hK;clear K' hK;refine aX (by simp) ?_;apply aA;refine aR fun K' hK=> ?_
  simp;apply hK;clear K' hK;apply aJ
  simp[au,aF,Post,bC,res1,bF,bg,aP,bf,aW,okT,okA,ok1,rowOf,Tryz.f6]
 have hv':JE v=false:=(by simpa using hv);simp[hv'];apply hK;clear K' hK;refine aYk (by simp) ?_
 have hv2:v.pre.size≤300:=(by simpa [JE]using hv');have c50:Tryz.prog.cellsOf 50=6:=(by kernel_rfl);refine fO (fun u X nz=>u 1=rowT Man.cells L∧u 2=rowT Pl.cells t∧u 3=iV n∧u 6=.ptr 0 0∧u 10=.ptr 1 0∧u 11=.ptr 2 0∧nz=3∧X 0=some (.var 27 root.cells)∧X 1=some (.var 35 d.cells)∧X 2=some (.var 23 v.cells)) ?_ ?_
 ·exact⟨by simp,by simp,by simp,by simp,by simp,by simp,by simp,by simp,by simp,by simp⟩
 clear hg hg' hr hr' hv hv' m1;rintro s G nx ⟨s1,s2,s3,s6,s10,s11,rfl,g0,g1,g2⟩;have hP:=su root L t hsz n d v (by omega) (by omega);have hsl:=fun h=>Ju (root:=root) (L:=L) (t:=t) (n:=n) (d:=d) (v:=v) h;have hsn:=fun h=>MI (root:=root) (L:=L) (t:=t) (n:=n) (d:=d) (v:=v) h;generalize qO root L t n d v=sp at*;refine aR fun K' hK=> ?_
 simp[s1,s2,s3,s6,s10,s11,g0,g1,g2];refine aj hP rfl (by first | rfl | (simp;done) | (simp;rfl) | (simp;exact⟨rfl,rfl⟩)) ?_;simp;apply hK;clear K' hK;have hW:=lF root L t hsz;refine eP (fun u X nz=>u 1=rowT Man.cells L∧u 2=rowT Pl.cells t∧u 3=iV n∧u 6=.ptr 0 0∧u 10=.ptr 1 0∧u 11=.ptr 2 0∧2<nz∧X 0=some (.var 27 root.cells)∧X 1=some (.var 35 d.cells)∧X 2=some (.var 23 v.cells)∧u 13=iV sp∧u 15=iV (codeV root L t)∧Kr nz X (u 14) (iL root L t)) ?_ ?_
 ·rcases lX root L t with⟨hw0,hfm⟩ | hfm
  ·rw[hfm]at hW;refine aS fun K' hK=> ?_
   simp[s1,s2,s6,g0];refine aN hW (by first | rfl | (simp;done) | (simp;rfl) | (simp;exact⟨rfl,rfl⟩)) ?_;simp[dG];apply hK;clear K' hK;with_reducible refine bP ?_
   exact⟨by simp[s1],by simp[s2],by simp[s3],by simp[s6],by simp[s10],by simp[s11],by omega,by simp[g0],by simp[g1],by simp[g2],by simp,by simp,.inl ⟨by simp,hw0⟩⟩
  ·rw[hfm]at hW;refine aS fun K' hK=> ?_
   simp[s1,s2,s6,g0];refine aN hW (by first | rfl | (simp;done) | (simp;rfl) | (simp;exact⟨rfl,rfl⟩)) ?_;simp[bH];apply hK;clear K' hK;with_reducible refine bP ?_
   exact⟨by simp[s1],by simp[s2],by simp[s3],by simp[s6],by simp[s10],by simp[s11],by omega,by simp[g0],by simp[g1],by simp[g2],by simp,by simp,.inr ⟨3,by simp,by omega,by simp⟩⟩
 clear hW hP s1 s2 s3 s6 s10 s11 g0 g1 g2;clear s G;rintro s G nx ⟨s1,s2,s3,s6,s10,s11,hnx,g0,g1,g2,s13,s15,hJ⟩;by_cases hs:sp<0
 ·have:=hsn hs;subst this;apply aA;refine aR fun K' hK=> ?_
  simp[s13];apply hK;clear K' hK;refine aX (by simp) ?_;apply aA;refine aR fun K' hK=> ?_
  simp;refine aj hB rfl (by first | rfl | (simp;done) | (simp;rfl) | (simp;exact⟨rfl,rfl⟩)) ?_;simp[s13];apply hK;clear K' hK;apply aJ
  simp[au,aF,Post,bC,res1,bF,bg,aP,bf,aW,okT,okA,ok1,rowOf,Tryz.f6]
 obtain⟨hc,p,hsp,hac,hc2,hto,hfi⟩:=hsl (by omega);subst hsp;rw[hc]at s15;have hA:=Au t hsz.2.2.2.2.1 p d.name v (by omega) (by omega);have e1:BA t p d.name v=gY t p d.name v:=vX hac;have e2:GY t p d.name v=t.length:=if_pos hac;rw[e1,e2,hac]at hA;have hnl:(gY t p d.name v).length=t.length+1:=eU;have hnz:gy root L (gY t p d.name v):=Hy hsz (by have:=vM hc;omega) (by omega) (by omega);have hwn:=Lu hc hc2 hnl hfi;have hW:=lF root L _ hnz;have hfm:=lX root L (gY t p d.name v);have hTo:=Ba (gY t p d.name v) hnz.2.2.2.2.1 n d;rw[hc2]at hfm;rw[hto]at hTo;generalize gY t p d.name v=w at*;clear e1 e2 hac hc2 hto hfi hsl hsn hnz;have np:¬(p:Int)<0:=(by omega);apply aA;refine aR fun K' hK=> ?_
 simp[s13,s15,np];apply hK;clear K' hK;refine aYk (by simp) ?_
 have n0:¬0=nx:=(by omega);have n1':¬1=nx:=(by omega);have n2:¬2=nx:=(by omega);refine aR fun K' hK=> ?_
 simp[s2,s10,s11,s13,g1,g2];refine aN hA (by first | rfl | (simp;done) | (simp;rfl) | (simp;exact⟨rfl,rfl⟩)) ?_;simp[bH];apply hK;clear K' hK;generalize hx1:s 14=x1 at*;refine fO (fun u X nz=>u 1=rowT Man.cells L∧u 3=iV n∧u 6=.ptr 0 0∧u 10=.ptr 1 0∧nz=nx+1∧X 0=some (.var 27 root.cells)∧X 1=some (.var 35 d.cells)∧u 14=x1∧Kr nz X x1 (iL root L t)∧u 16=.row nx w.length∧u 17=iV t.length∧u 18=iV 0∧X nx=some (.row 50 (flat Pl.cells w))) ?_ ?_
 ·exact⟨by simp[s1],by simp[s3],by simp[s6],by simp[s10],by simp,by simp[g0,n0],by simp[g1,n1'],by simp[hx1],hJ.keep (by omega) fun k hk _=>by rw[Hp.upd_ne _ _ (by omega)],by simp,by simp,by simp,by simp⟩
 clear hA s1 s2 s3 s6 s10 s11 g0 g1 g2 s13 s15 hJ hx1;clear s G;rintro s G nz ⟨s1,s3,s6,s10,rfl,g0,g1,s14,hJ,s16,s17,s18,gx⟩;have hT:=dU (P:=Tryz.prog) gx c50 rfl;have f0:bU G (.row nx w.length) 0=some (.var 27 root.cells):=(by rw[dP (by omega)];exact g0);have f1:bU G (.row nx w.length) 1=some (.var 35 d.cells):=(by rw[dP (by omega)];exact g1);have m0:¬0=nx+1:=(by omega);have m1:¬nx=0:=(by omega);have hJ':∀X:Hp,(∀k,k≠nx→k<nx+1→X k=G k)→Kr (nx+1) X x1 (iL root L t):=fun X hX=>hJ.keep (Nat.le_refl _) fun k hk hr=>hX k (fun e=>by subst e;rw[gx]at hr;injection hr with hr;injection hr with h1 h2;cases h1) hk;refine eP (fun u X nz=>u 3=iV n∧u 10=.ptr 1 0∧X 1=some (.var 35 d.cells)∧u 14=x1∧Kr nz X x1 (iL root L t)∧u 16=.row nx w.length∧u 17=iV t.length∧u 18=iV 0∧u 20=iV 0∧bM Tryz.prog X (.row nx w.length)=some (rowT Pl.cells w)∧Kr nz X (u 19) (iL root L w)) ?_ ?_
 ·rcases hfm with⟨hw0,hfm⟩ | hfm
  ·rw[hfm]at hW;refine aS fun K' hK=> ?_
   simp[s1,s6,s16,g0];refine aN hW (by first | rfl | (simp[hT];done) | (simp[hT];rfl) | (simp[hT];exact⟨rfl,rfl⟩)) ?_;simp[dG,hT];apply hK;clear K' hK;with_reducible refine bP ?_
   exact⟨by simp[s3],by simp[s10],by simp[f1],by simp[s14],(hJ' _ fun k hk _=>dP hk),by simp[s16],by simp[s17],by simp[s18],by simp,by simp[hT],.inl ⟨by simp,hw0⟩⟩
  ·rw[hfm]at hW;refine aS fun K' hK=> ?_
   simp[s1,s6,s16,g0];refine aN hW (by first | rfl | (simp[hT];done) | (simp[hT];rfl) | (simp[hT];exact⟨rfl,rfl⟩)) ?_;simp[bH,hT];apply hK;clear K' hK;with_reducible refine bP ?_
   exact⟨by simp[s3],by simp[s10],by simp[f1,m1],by simp[s14],(hJ' _ fun k hk hk2=>by rw[Hp.upd_ne _ _ (by omega),dP hk]).keep (by omega) fun _ _ _=>rfl,by simp[s16],by simp[s17],by simp[s18],by simp,by rw[Dx (by omega)];simp[hT],.inr ⟨nx+1,by simp,by omega,by simp⟩⟩
 clear hW hfm hT f0 f1 m0 m1 hJ' hJ s1 s3 s6 s10 g0 g1 s14 s16 s17 s18 gx;clear s G;rintro s G nz ⟨s3,s10,g1,s14,hJ,s16,s17,s18,s20,hT,hK2⟩;generalize hx2:s 19=x2 at*;have ha1:=yX (root:=root) (L:=L) (t:=t);have ha2:=yX (root:=root) (L:=L) (t:=w);generalize iL root L w=acc2 at*;generalize iL root L t=acc1 at*;have hl1:=hJ.len;have hl2:=hK2.len;apply aA;refine aR fun K' hK=> ?_
 simp[s18,s20,s16,s3,s10,s17,g1];refine aj hTo rfl (by first | rfl | (simp[hT];done) | (simp[hT];rfl) | (simp[hT];exact⟨rfl,rfl⟩)) ?_;simp[s17];apply hK;clear K' hK;refine aYk (by simp) ?_;apply aA;refine aR fun K' hK=> ?_
 simp;apply hK;clear K' hK;apply aB
 refine bI (fun u X nz'=>X=G∧nz'=nz∧u 14=x1∧u 19=x2∧u 17=iV t.length∧∃i:Nat,u 21=iV i∧i≤acc2.length) (fun s _ _=>match s 21 with | .v (.int _ n)=>acc2.length-n.toNat | _=>0) ?_ ?_
 ·exact⟨rfl,rfl,by simp[s14],by simp[hx2],by simp[s17],0,by simp,by omega⟩
 clear s3 s10 s14 s16 s17 s18 s20 hx2 hT hTo;clear s;rintro s X nq-⟨rfl,rfl,s14,s19,s17,i,s21,hi⟩;have hw:IntKind.i64.wrap (↑i+1)=((i+1:Nat):Int):=dw (by omega);have o21:=s21;apply aA;refine aR fun K' hK=> ?_
 simp[s19,s21,hl2];apply hK;clear K' hK;refine aC fun A B hA hB=> ?_
 simp;refine⟨fun hi2=>hA ?_,fun hi2=>hB ?_⟩<;>clear hA hB A B<;>(try simp at hi2)<;>(try with_reducible refine aK ?_)
 ·obtain⟨r2,rfl,hr2,gr2⟩:=hK2.pos hi2;have hz:=hwn _ (bK hi2);generalize hz0:nth acc2 i=z at*;apply aB;refine aR fun K' hK=> ?_
  simp[s17,s19,s21,gr2,hi2,hz0];apply hK;clear K' hK;apply aA;refine aR fun K' hK=> ?_
  simp;apply hK;clear K' hK;refine eP (fun u Y nz'=>Y=X∧nz'=nq∧u 14=x1∧u 19=.row r2 acc2.length∧u 17=iV t.length∧u 21=iV i∧u 22=bV true) ?_ ?_
  ·skip;refine dJ (aB ?_)
   refine bI (fun u Y nz'=>Y=X∧nz'=nq∧u 14=x1∧u 19=.row r2 acc2.length∧u 17=iV t.length∧u 21=iV i∧∃j:Nat,u 23=iV j∧j≤acc1.length∧u 22=bV (decide (z=t.length) || (acc1.take j).any fun q=>decide (q=z))) (fun s _ _=>match s 23 with | .v (.int _ n)=>acc1.length-n.toNat | _=>0) ?_ ?_
   ·exact⟨rfl,rfl,by simp[s14],by simp[s19],by simp[s17],by simp[s21],0,by simp,by omega,by simp⟩
   clear s14 s19 s17 s21 o21;clear s;rintro s Y nz'-⟨rfl,rfl,s14,s19,s17,s21,j,s23,hj,s22⟩;have hw2:IntKind.i64.wrap (↑j+1)=((j+1:Nat):Int):=dw (by omega);have o23:=s23;apply aA;refine aR fun K' hK=> ?_
   simp[s14,s23,hl1];apply hK;clear K' hK;refine aC fun A B hA hB=> ?_
   simp;refine⟨fun hj2=>hA ?_,fun hj2=>hB ?_⟩<;>clear hA hB A B<;>(try simp at hj2)<;>(try with_reducible refine aK ?_)
   ·have hstep:=lC (p:=fun q:Int=>decide (q=z)) hj2;obtain⟨r1,rfl,hr1,gr1⟩:=hJ.pos hj2;generalize hin:(decide (z=(t.length:Int)) || (acc1.take j).any fun q=>decide (q=z))=y at*;apply aB
    cases y with
    | true=>
     refine aT fun K' hK=> ?_
     simp(maxSteps:=1000000) [s22];apply hK;clear K' hK;apply ak
     refine ah ?_;refine aS fun K' hK=> ?_
     simp[s23,hw2];apply hK;clear K' hK;refine ak (ay ?_ ?_)
     ·exact⟨rfl,rfl,by simp[s14],by simp[s19],by simp[s17],by simp[s21],j+1,by simp[hw2],by omega,by rw[hstep,←Bool.or_assoc,hin];simp⟩
     ·simp[o23,s23,hw2];omega
    | false=>
     refine aT fun K' hK=> ?_
     simp(maxSteps:=1000000) [s14,s22,s23,s19,s21,gr1,gr2,hj2,hi2,hz0];apply hK;clear K' hK;apply ak
     refine ah ?_;refine aS fun K' hK=> ?_
     simp[s23,hw2];apply hK;clear K' hK;refine ak (ay ?_ ?_)
     ·exact⟨rfl,rfl,by simp[s14],by simp[s19],by simp[s17],by simp[s21],j+1,by simp[hw2],by omega,by rw[hstep,←Bool.or_assoc,hin];simp⟩
     ·simp[o23,s23,hw2];omega
   ·skip;apply bG
    refine aI (aH ?_);with_reducible refine bP ?_
    have hje:j=acc1.length:=(by omega);subst hje;rw[List.take_length]at s22;have hy:(decide (z=(t.length:Int)) || acc1.any fun q=>decide (q=z))=true:=by
     rcases hz with h | h
     ·simp[h]
     ·simp[h]
    rw[hy]at s22;exact⟨rfl,rfl,s14,s19,s17,s21,s22⟩
  clear s14 s19 s17 s21;rintro s Y nz' ⟨rfl,rfl,s14,s19,s17,s21,s22⟩;refine aR fun K' hK=> ?_
  simp[s22];apply hK;clear K' hK;refine aVk (by simp) ?_;apply ak
  refine ah ?_;refine aS fun K' hK=> ?_
  simp[s21,hw];apply hK;clear K' hK;refine ak (ay ?_ ?_)
  ·exact⟨rfl,rfl,by simp[s14],by simp[s19],by simp[s17],i+1,by simp[hw],by omega⟩
  ·simp[o21,s21,hw];omega
 ·skip;apply bG
  refine aI (aH ?_);refine aR fun K' hK=> ?_
  simp;refine aj hB rfl (by first | rfl | (simp;done) | (simp;rfl) | (simp;exact⟨rfl,rfl⟩)) ?_;simp;apply hK;clear K' hK;apply aG
  simp[au,aF,Post,bC,res1,bF,bg,aP,bf,aW,okT,okA,ok1,rowOf,Tryz.f6]
set_option maxRecDepth 100000
set_option maxHeartbeats 4000000
theorem vW {root:Man} {L:List Man} {t:List Pl} {n:Nat} {m:Man} (h:manVal root L t n=some m):edgesV root L t n=ofF m.deps root.rules (decide (n=0)):=by
 have hdec:decide ((n:Int)=0)=decide (n=0):=(by simp);unfold edgesV;rw[h,hdec]
theorem again9_ok (hB:CallsOK Tryz.prog 14 [] (bV true) []) (root:Man) (L:List Man) (t:List Pl) (hl:L.length≤9223372036854775807) (htl:t.length≤9223372036854775807):CallsOK Tryz.prog 9 [.agg root.cells,rowT Man.cells L,rowT Pl.cells t] (bV true) []:=by
 refine aO mixed Tryz.call9 Tryz.func9 rfl (by rw[Tryz.ntmps9];simp) ?_ rfl;rw[Tryz.ntmps9];refine aR fun K' hK=> ?_
 simp;apply hK;clear K' hK;apply aA;refine aR fun K' hK=> ?_
 simp;refine aj (ku root L t hl htl) rfl (by first | rfl | (simp;done) | (simp;rfl) | (simp;exact⟨rfl,rfl⟩)) ?_;by_cases hg:jv root L t=true
 ·simp[hg];apply hK;clear K' hK;refine aX (by simp) ?_;apply aA;refine aR fun K' hK=> ?_
  simp;apply hK;clear K' hK;apply aJ
  simp[au,aF,Post,bC,res1,bF,bg,aP,bf,aW,okT,okA,ok1,rowOf,Tryz.f9]
 have hg':jv root L t=false:=(by simpa using hg);obtain⟨hsz,hl1,h12⟩:=lJ hg';simp[hg'];refine aj (yh root L t hsz h12 hl1) rfl (by first | rfl | (simp;done) | (simp;rfl) | (simp;exact⟨rfl,rfl⟩)) ?_;by_cases hw:C9 root L t=true
 ·simp[hw];apply hK;clear K' hK;refine aX (by simp) ?_;apply aA;refine aR fun K' hK=> ?_
  simp;apply hK;clear K' hK;apply aJ
  simp[au,aF,Post,bC,res1,bF,bg,aP,bf,aW,okT,okA,ok1,rowOf,Tryz.f9]
 have hw':C9 root L t=false:=(by simpa using hw);simp[hw'];apply hK;clear K' hK;refine aYk (by simp) ?_
 clear hg hg' hw hw';apply aA;refine aR fun K' hK=> ?_
 simp;refine aj (sG root L t hsz) rfl (by first | rfl | (simp;done) | (simp;rfl) | (simp;exact⟨rfl,rfl⟩)) ?_;by_cases hval:qU root L t=true
 ·simp[hval];apply hK;clear K' hK;refine aYk (by simp) ?_
  have hG:=qC root L t hsz h12 hl1;have hag:=IZ (root:=root) (L:=L) (t:=t) hval;have hfine:=fun(n:Nat) (h:n<t.length)=>(lZ.1 ((qM.1 hval).2 n h)).1;have hS:=qJ t t (by omega);apply aA;refine aR fun K' hK=> ?_
  simp;apply hK;clear K' hK;apply aB
  refine bI (fun s G nx=>s 1=rowT Man.cells L∧s 2=rowT Pl.cells t∧s 3=.ptr 0 0∧G 0=some (.var 27 root.cells)∧0<nx∧∃n:Nat,s 7=iV n∧n≤t.length∧∀j,j<n→∀d∈edgesV root L t j,0≤toN t j d) (fun s _ _=>match s 7 with | .v (.int _ n)=>t.length-n.toNat | _=>0) ?_ ?_
  ·exact⟨by simp,by simp,by simp,by simp,by omega,0,by simp,by omega,fun j hj=>absurd hj (Nat.not_lt_zero j)⟩
  rintro s G nx-⟨s1,s2,s3,g0,hnx,n,s7,hn,hto⟩;have o7:=s7;have hw:IntKind.i64.wrap (↑n+1)=((n+1:Nat):Int):=dw (by omega);apply aA;refine aR fun K' hK=> ?_
  simp[s2,s7];apply hK;clear K' hK;refine aC fun A B hA hB=> ?_
  simp;refine⟨fun hn2=>hA ?_,fun hn2=>hB ?_⟩<;>clear hA hB A B<;>(try simp at hn2)<;>(try with_reducible refine aK ?_)
  ·obtain⟨m,hmv⟩:=Option.isSome_iff_exists.1 (hfine n hn2);have hM:=rJ root hsz.2.1 L hsz.2.2.1.1 hsz.2.2.2.1 t hsz.2.2.2.2.1 n;rw[hmv]at hM;have hmm:Man.sz m∧Man.okS m:=by
    rcases jY hmv with rfl | h
    ·exact⟨hsz.1,hsz.2.1⟩
    ·exact⟨hsz.2.2.1.2 _ h,hsz.2.2.2.1 _ h⟩
   have hOf:=sH m root.rules (decide (n=0)) hmm.2.1 hsz.2.1.2;have hEl:(ofF m.deps root.rules (decide (n=0))).length≤1000000000:=nJ hmm.1.2.2.1.1;have hE:=vW hmv;generalize ofF m.deps root.rules (decide (n=0))=E at*;have n0:¬0=nx:=(by omega);have n1:¬0=nx+1:=(by omega);have n2:¬0=nx+2:=(by omega);have n12:¬nx+1=nx+2:=(by omega);have n02:¬nx=nx+2:=(by omega);have n01:¬nx=nx+1:=(by omega);apply aB;refine aR fun K' hK=> ?_
   simp[s1,s2,s3,s7,g0];refine aN hM (by first | rfl | (simp;done) | (simp;rfl) | (simp;exact⟨rfl,rfl⟩)) ?_;simp[uK,jV];apply hK;clear K' hK;refine fO (fun u H nz=>u 1=rowT Man.cells L∧u 2=rowT Pl.cells t∧u 3=.ptr 0 0∧u 7=iV n∧u 8=.ptr (nx+2) 0∧nz=nx+3∧H 0=some (.var 27 root.cells)∧H nx=some (.row 35 (flat Dep.cells m.deps))∧H (nx+1)=some (.row 134 (flat Ru.cells m.rules))∧H (nx+2)=some (.var 27 (m.dX (.row nx m.deps.length) (.row (nx+1) m.rules.length)))) ?_ ?_
   ·exact⟨by simp[s1],by simp[s2],by simp[s3],by simp[s7],by simp,by simp,by simp[g0,n0,n1,n2],by simp[n02,n01],by simp[n12],by simp;rw[Nat.add_comm 1 nx]⟩
   clear s1 s2 s3 s7 g0;rintro s G nz ⟨s1,s2,s3,s7,s8,rfl,g0,k0,k1,k2⟩;have hT:=lq (show¬nx+1=nx by omega) k0 k1;have n3:¬0=nx+3:=(by omega);refine aR fun K' hK=> ?_
   simp[s3,s7,s8,k2,g0];refine aN hOf (by simp[hT]) ?_;simp[bH,hT];apply hK;clear K' hK;refine aR fun K' hK=> ?_
   simp;apply hK;clear K' hK;refine dJ (aB ?_)
   refine bI (fun s G nz=>s 1=rowT Man.cells L∧s 2=rowT Pl.cells t∧s 3=.ptr 0 0∧G 0=some (.var 27 root.cells)∧nx+3<nz∧s 7=iV n∧s 10=.row (nx+3) E.length∧G (nx+3)=some (.row 35 (flat Dep.cells E))∧∃i:Nat,s 11=iV i∧i≤E.length∧∀d∈E.take i,0≤toN t n d) (fun s _ _=>match s 11 with | .v (.int _ n)=>E.length-n.toNat | _=>0) ?_ ?_
   ·exact⟨by simp[s1],by simp[s2],by simp[s3],by simp[g0,n0,n1,n3],by omega,by simp[s7],by simp,by simp,0,by simp,by omega,by simp⟩
   clear s1 s2 s3 s7 s8 g0 k0 k1 k2 hT;clear s G;rintro s G nz-⟨s1,s2,s3,g0,hnz,s7,s10,g3,i,s11,hi,hti⟩;have hw2:IntKind.i64.wrap (↑i+1)=((i+1:Nat):Int):=dw (by omega);have o11:=s11;apply aA;refine aR fun K' hK=> ?_
   simp[s10,s11,g3];apply hK;clear K' hK;refine aC fun A B hA hB=> ?_
   simp;refine⟨fun hi2=>hA ?_,fun hi2=>hB ?_⟩<;>clear hA hB A B<;>(try simp at hi2)<;>(try with_reducible refine aK ?_)
   ·have hstep:E.take (i+1)=E.take i++[nth E i]:=by
     rw[List.take_add_one,List.getElem?_eq_getElem hi2,←bZ hi2];rfl
    generalize hgd:nth E i=d at*;apply aB;refine aR fun K' hK=> ?_
    simp[s2,s7,s10,s11,g3,hi2,hgd];refine aj (Ba t hsz.2.2.2.2.1 n d) rfl (by first | rfl | (simp;done) | (simp;rfl) | (simp;exact⟨rfl,rfl⟩)) ?_;simp;apply hK;clear K' hK;by_cases ht:toN t n d<0
    ·skip;refine aU (by simp[ht]) ?_;apply aA;refine aR fun K' hK=> ?_
     simp;refine aj hB rfl (by first | rfl | (simp;done) | (simp;rfl) | (simp;exact⟨rfl,rfl⟩)) ?_;simp;apply hK;clear K' hK;apply aJ
     simp[au,aF,Post,bC,res1,bF,bg,aP,bf,aW,okT,okA,ok1,rowOf,Tryz.f9]
    ·skip;refine aVk (by simp[ht]) ?_;apply ak
     refine ah ?_;refine aS fun K' hK=> ?_
     simp[s11,hw2];apply hK;clear K' hK;refine ak (ay ?_ ?_)
     ·exact⟨by simp[s1],by simp[s2],by simp[s3],by simp[g0],by omega,by simp[s7],by simp[s10],by simp[g3],i+1,by simp[hw2],by omega,fun x hx=>by
       rw[hstep]at hx;rcases List.mem_append.1 hx with h | h
       ·exact hti x h
       ·rw[List.mem_singleton.1 h];omega⟩
     ·simp[o11,s11,hw2];omega
   ·skip;apply bG
    refine aI (aH ?_);have hie:i=E.length:=(by omega);subst hie;rw[List.take_length]at hti;apply ak
    refine ah ?_;refine aS fun K' hK=> ?_
    simp[s7,hw];apply hK;clear K' hK;refine ak (ay ?_ ?_)
    ·exact⟨by simp[s1],by simp[s2],by simp[s3],by simp[g0],by omega,n+1,by simp[hw],by omega,fun j hj d hd=>by
      rcases Nat.lt_or_ge j n with h | h
      ·exact hto j h d hd
      ·have:j=n:=(by omega);subst this;rw[hE]at hd;exact hti d hd⟩
    ·simp[o7,s7,hw];omega
  ·skip;apply bG
   refine aI (aH ?_);have hne:n=t.length:=(by omega);subst hne;have hgr:=hag hto;have hO:=vP (root:=root) (L:=L) (t:=t) (by rw[hgr]);rw[hgr]at hO;rw[hO]at hG;refine aR fun K' hK=> ?_
   simp[s1,s2,s3,g0];refine aN hG (by first | rfl | (simp;done) | (simp;rfl) | (simp;exact⟨rfl,rfl⟩)) ?_;rw[pK];simp[dG];apply hK;clear K' hK;refine aR fun K' hK=> ?_
   simp[s2];refine aj hB rfl (by first | rfl | (simp;done) | (simp;rfl) | (simp;exact⟨rfl,rfl⟩)) ?_;simp[s2];refine aj hS rfl (by first | rfl | (simp;done) | (simp;rfl) | (simp;exact⟨rfl,rfl⟩)) ?_;simp;apply hK;clear K' hK;apply aG
   simp[au,aF,Post,bC,res1,bF,bg,aP,bf,aW,okT,okA,ok1,rowOf,Tryz.f9]
 ·simp[hval];apply hK;clear K' hK;refine aX (by simp) ?_;apply aA;refine aR fun K' hK=> ?_
  simp;refine aj hB rfl (by first | rfl | (simp;done) | (simp;rfl) | (simp;exact⟨rfl,rfl⟩)) ?_;simp;apply hK;clear K' hK;apply aJ
  simp[au,aF,Post,bC,res1,bF,bg,aP,bf,aW,okT,okA,ok1,rowOf,Tryz.f9]
set_option maxRecDepth 100000
set_option maxHeartbeats 1000000
def Fa (root:Man) (L:List Man) (u:List Pl) (b:Bs) (z:Int):Bool:=(edgesV root L u z.toNat).any fun d=>decide (d.name=b)
theorem Qy {root:Man} {L:List Man} {u:List Pl} (g:Good u) (h:Asked root L u) {k:Nat} (h1:1≤k) (hk:k<u.length):(eH u (parN u k)).any (Fa root L u (nth u k).name)=true:=by
 obtain⟨l,hl,hu,d,hd,hn⟩:=h k h1 hk;have hp:=g.par k h1 hk;have hpz:((parN u k).toNat:Int)=parN u k:=(by omega);have hm:=xA (t:=u) (i:=(parN u k).toNat) (k:=l) g (by omega) hl;rw[hpz,hu]at hm;obtain⟨x,hx,hxl⟩:=List.any_eq_true.1 hm;have hxl:x=(l:Int):=(by simpa using hxl);subst hxl;refine List.any_eq_true.2 ⟨_,hx,?_⟩;unfold Fa;rw[Int.toNat_natCast];exact List.any_eq_true.2 ⟨d,hd,by simp[hn]⟩
theorem L6 {u:List Pl} {i:Int} (z:Int) (hz:z∈eH u i):∃l:Nat,z=l∧l<u.length:=by
 unfold eH at hz;split at hz
 ·unfold iP at hz;obtain⟨j,hj,rfl⟩:=List.mem_map.1 hz;exact⟨j,rfl,List.mem_range.1 (List.mem_filter.1 hj).1⟩
 ·cases hz
theorem reached7_ok (hB:CallsOK Tryz.prog 14 [] (bV true) []) (root:Man) (L:List Man) (hl:L.length≤9223372036854775807):CallsOK Tryz.prog 7 [.agg root.cells,rowT Man.cells L] (bV true) []:=by
 refine aO mixed Tryz.call7 Tryz.func7 rfl (by rw[Tryz.ntmps7];simp) ?_ rfl;rw[Tryz.ntmps7];have hLg:CallsOK Tryz.prog 10 [.agg root.cells,rowT Man.cells L,.v (.slice none 0 0)] (bV (jv root L [])) []:=(ku root L [] hl (by simp)).weak (.cons (.refl _) (.cons (.refl _) (.cons .nilRow .nil)));have c50:Tryz.prog.cellsOf 50=6:=(by kernel_rfl);have hT0:bM Tryz.prog ((Hp.upd (fun _=>none) 0 (.var 27 root.cells)).upd 1 (.row 50 (flat Pl.cells [rootP]))) (.row 1 1)=some (rowT Pl.cells [rootP]):=dU (by simp) c50 rfl;refine aR fun K' hK=> ?_
 simp;apply hK;clear K' hK;apply aA;refine aQ fun K' hK=> ?_
 simp;refine aj hLg rfl (by first | rfl | (simp;done) | (simp;rfl) | (simp;exact⟨rfl,rfl⟩)) ?_;by_cases hg:jv root L []=true
 ·simp[hg];apply hK;clear K' hK;refine aX (by simp) ?_;apply aA;refine aR fun K' hK=> ?_
  simp;apply hK;clear K' hK;apply aJ
  simp[au,aF,Post,bC,res1,bF,bg,aP,bf,aW,okT,okA,ok1,rowOf,Tryz.f7]
 have hg':jv root L []=false:=(by simpa using hg);obtain⟨hszn,_,h12⟩:=lJ hg';have hsz:=Ia hszn;obtain⟨a,b,c,e,_⟩:=id hsz;simp[hg'];refine aN Ac (by first | rfl | (simp;done) | (simp;rfl) | (simp;exact⟨rfl,rfl⟩)) ?_;simp[bH];refine aj (yh root L [rootP] hsz h12 (by simp)) rfl (by first | rfl | (simp[hT0];done) | (simp[hT0];rfl) | (simp[hT0];exact⟨rfl,rfl⟩)) ?_;by_cases hw:C9 root L [rootP]=true
 ·simp[hw];apply hK;clear K' hK;refine aX (by simp) ?_;apply aA;refine aR fun K' hK=> ?_
  simp;apply hK;clear K' hK;apply aJ
  simp[au,aF,Post,bC,res1,bF,bg,aP,bf,aW,okT,okA,ok1,rowOf,Tryz.f7]
 have hw':C9 root L [rootP]=false:=(by simpa using hw);simp[hw'];apply hK;clear K' hK;refine aYk (by simp) ?_
 refine fO (fun u X nz=>u 1=rowT Man.cells L∧u 2=.ptr 0 0∧X 0=some (.var 27 root.cells)∧nz=2) ?_ ?_
 ·exact⟨by simp,by simp,by simp,by simp⟩
 clear hg hg' hw hw' hLg hT0;rintro s G nx ⟨s1,s2,g0,rfl⟩;have hU:=lK root L a b c e h12;by_cases hc:(growS root L [rootP]).2=0
 ·obtain⟨hzu,hcu,hlu⟩:=Aw hc hsz;have hask:=Ey hc;have hval:=(uz hc).1;have g:Good (growS root L [rootP]).1:=dM.1 (dA.1 hcu).2.2;have hfine:=fun(n:Nat) (h:n<(growS root L [rootP]).1.length)=>(lZ.1 ((qM.1 hval).2 n h)).1;rw[vP hc]at hU;generalize (growS root L [rootP]).1=u at*;have hall:=fun k h1 h2=>Qy g hask (k:=k) h1 h2;refine aR fun K' hK=> ?_
  simp[s1,s2,g0];refine aN hU (by first | rfl | (simp;done) | (simp;rfl) | (simp;exact⟨rfl,rfl⟩)) ?_;rw[pK];simp[dG];apply hK;clear K' hK;apply aA;refine aR fun K' hK=> ?_
  simp;apply hK;clear K' hK;refine aYk (by simp) ?_;apply aA;refine aR fun K' hK=> ?_
  simp;apply hK;clear K' hK;apply aB
  refine bI (fun s G nx=>s 1=rowT Man.cells L∧s 2=.ptr 0 0∧G 0=some (.var 27 root.cells)∧0<nx∧s 5=rowT Pl.cells u∧∃k:Nat,s 7=iV k∧1≤k∧k≤u.length) (fun s _ _=>match s 7 with | .v (.int _ n)=>u.length-n.toNat | _=>0) ?_ ?_
  ·exact⟨by simp[s1],by simp[s2],by simp[g0],by omega,by simp,1,by simp,by omega,g.pos⟩
  clear s1 s2 g0 hU hask hc hval;clear s G;rintro s G nx-⟨s1,s2,g0,hnx,s5,k,s7,hk1,hk⟩;have o7:=s7;have hw:IntKind.i64.wrap (↑k+1)=((k+1:Nat):Int):=dw (by omega);apply aA;refine aR fun K' hK=> ?_
  simp[s5,s7];apply hK;clear K' hK;refine aC fun A B hA hB=> ?_
  simp;refine⟨fun hk2=>hA ?_,fun hk2=>hB ?_⟩<;>clear hA hB A B<;>(try simp at hk2)<;>(try with_reducible refine aK ?_)
  ·have hall:=hall k hk1 hk2;have hpn:parN u k=(nth u k).par:=rfl;have hBl:=zS u hzu.2.2.2.2.1 (nth u k).par;have hbn:=fun z hz=>L6 (u:=u) (i:=(nth u k).par) z hz;have hbl:(eH u (nth u k).par).length≤u.length:=zO;rw[hpn]at hall;generalize eH u (nth u k).par=bl at*;generalize hnm:(nth u k).name=nm at*;have n0:¬0=nx:=(by omega);apply aB;refine aR fun K' hK=> ?_
   simp[s5,s7,hk2];refine aN hBl (by first | rfl | (simp;done) | (simp;rfl) | (simp;exact⟨rfl,rfl⟩)) ?_;simp[bH];apply hK;clear K' hK;refine aR fun K' hK=> ?_
   simp;apply hK;clear K' hK;apply aA;refine aR fun K' hK=> ?_
   simp;apply hK;clear K' hK;refine eP (fun s X ny=>s 1=rowT Man.cells L∧s 2=.ptr 0 0∧X 0=some (.var 27 root.cells)∧0<ny∧s 5=rowT Pl.cells u∧s 7=iV k∧s 9=bV true) ?_ ?_
   ·skip;refine dJ (aB ?_)
    refine bI (fun s X ny=>s 1=rowT Man.cells L∧s 2=.ptr 0 0∧X 0=some (.var 27 root.cells)∧nx<ny∧s 5=rowT Pl.cells u∧s 7=iV k∧s 8=.row nx bl.length∧X nx=some (.row 3 (flat iC bl))∧∃i:Nat,s 10=iV i∧i≤bl.length∧s 9=bV ((bl.take i).any (Fa root L u nm))) (fun s _ _=>match s 10 with | .v (.int _ n)=>bl.length-n.toNat | _=>0) ?_ ?_
    ·exact⟨by simp[s1],by simp[s2],by simp[g0,n0],by omega,by simp[s5],by simp[s7],by simp,by simp,0,by simp,by omega,by simp⟩
    clear s1 s2 g0 s5 s7 o7;clear s G;rintro s G ny-⟨s1,s2,g0,hny,s5,s7,s8,gb,i,s10,hi,s9⟩;have o10:=s10;have hw1:IntKind.i64.wrap (↑i+1)=((i+1:Nat):Int):=dw (by omega);apply aA;refine aR fun K' hK=> ?_
    simp[s8,s10,gb];apply hK;clear K' hK;refine aC fun A B hA hB=> ?_
    simp;refine⟨fun hi2=>hA ?_,fun hi2=>hB ?_⟩<;>clear hA hB A B<;>(try simp at hi2)<;>(try with_reducible refine aK ?_)
    ·have hstep:=lC (p:=Fa root L u nm) hi2;obtain⟨l,hzl,hl2⟩:=hbn _ (bK hi2);generalize hin:(bl.take i).any (Fa root L u nm)=y0 at*;obtain⟨m,hmv⟩:=Option.isSome_iff_exists.1 (hfine l hl2);have hM:=rJ root hzu.2.1 L hzu.2.2.1.1 hzu.2.2.2.1 u hzu.2.2.2.2.1 l;rw[hmv]at hM;have hmm:Man.sz m∧Man.okS m:=by
      rcases jY hmv with rfl | h
      ·exact⟨a,b⟩
      ·exact⟨c.2 _ h,e _ h⟩
     have hOf:=sH m root.rules (decide (l=0)) hmm.2.1 b.2;have hEl:(ofF m.deps root.rules (decide (l=0))).length≤1000000000:=nJ hmm.1.2.2.1.1;have hE:=vW hmv;have hP:Fa root L u nm (nth bl i)=(edgesV root L u l).any fun d=>decide (d.name=nm):=by
      rw[hzl];unfold Fa;rw[Int.toNat_natCast]
     rw[hE]at hP;generalize ofF m.deps root.rules (decide (l=0))=E at*;have q0:¬0=ny:=(by omega);have q1:¬0=ny+1:=(by omega);have q2:¬0=ny+2:=(by omega);have q3:¬0=ny+3:=(by omega);have q12:¬ny+1=ny+2:=(by omega);have q02:¬ny=ny+2:=(by omega);have q01:¬ny=ny+1:=(by omega);have p0:¬nx=ny:=(by omega);have p1:¬nx=ny+1:=(by omega);have p2:¬nx=ny+2:=(by omega);have p3:¬nx=ny+3:=(by omega);apply aB
     refine eY none [] (by decide+kernel) (by decide+kernel) (fun p' hp'=>by cases hp') fun K' hK=> ?_;simp[s1,s2,s5,s8,s10,g0,gb,hi2,hzl];refine aN hM (by first | rfl | (simp;done) | (simp;rfl) | (simp;exact⟨rfl,rfl⟩)) ?_;simp[uK,jV];apply hK;clear K' hK;refine fO (fun s H nz=>s 1=rowT Man.cells L∧s 2=.ptr 0 0∧s 5=rowT Pl.cells u∧s 7=iV k∧s 8=.row nx bl.length∧s 9=bV y0∧s 10=iV i∧s 11=.ptr (ny+2) 0∧nz=ny+3∧H 0=some (.var 27 root.cells)∧H nx=some (.row 3 (flat iC bl))∧H ny=some (.row 35 (flat Dep.cells m.deps))∧H (ny+1)=some (.row 134 (flat Ru.cells m.rules))∧H (ny+2)=some (.var 27 (m.dX (.row ny m.deps.length) (.row (ny+1) m.rules.length)))) ?_ ?_
     ·exact⟨by simp[s1],by simp[s2],by simp[s5],by simp[s7],by simp[s8],by simp[s9],by simp[s10],by simp,by simp,by simp[g0,q0,q1,q2],by simp[gb,p0,p1,p2],by simp[q02,q01],by simp[q12],by simp;rw[Nat.add_comm 1 ny]⟩
     clear s1 s2 s5 s7 s8 s9 s10 g0 gb;rintro s G nz ⟨s1,s2,s5,s7,s8,s9,s10,s11,rfl,g0,gb,k0,k1,k2⟩;have hT:=lq (show¬ny+1=ny by omega) k0 k1;refine eY none [] (by decide+kernel) (by decide+kernel) (fun p' hp'=>by cases hp') fun K' hK=> ?_;simp[s2,s8,s10,s11,k2,g0,gb,hi2,hzl];refine aN hOf (by simp[hT]) ?_;simp[bH,hT];apply hK;clear K' hK;refine aR fun K' hK=> ?_
     simp;apply hK;clear K' hK;refine dJ (eP (fun s X nz=>s 1=rowT Man.cells L∧s 2=.ptr 0 0∧X 0=some (.var 27 root.cells)∧nx<nz∧s 5=rowT Pl.cells u∧s 7=iV k∧s 8=.row nx bl.length∧X nx=some (.row 3 (flat iC bl))∧s 10=iV i∧s 9=bV (y0 || E.any fun d=>decide (d.name=nm))) ?_ ?_)
     ·skip;refine dJ (aB ?_)
      refine bI (fun s X nz=>s 1=rowT Man.cells L∧s 2=.ptr 0 0∧X 0=some (.var 27 root.cells)∧ny+3<nz∧s 5=rowT Pl.cells u∧s 7=iV k∧s 8=.row nx bl.length∧X nx=some (.row 3 (flat iC bl))∧s 10=iV i∧s 13=.row (ny+3) E.length∧X (ny+3)=some (.row 35 (flat Dep.cells E))∧∃j:Nat,s 14=iV j∧j≤E.length∧s 9=bV (y0 || (E.take j).any fun d=>decide (d.name=nm))) (fun s _ _=>match s 14 with | .v (.int _ n)=>E.length-n.toNat | _=>0) ?_ ?_
      ·exact⟨by simp[s1],by simp[s2],by simp[g0,q0,q1,q3],by omega,by simp[s5],by simp[s7],by simp[s8],by simp[gb,p0,p1,p3],by simp[s10],by simp,by simp,0,by simp,by omega,by simp[s9]⟩
      clear s1 s2 s5 s7 s8 s9 s10 s11 g0 gb k0 k1 k2 hT o10;clear s G;rintro s G nz-⟨s1,s2,g0,hnz,s5,s7,s8,gb,s10,s13,gE,j,s14,hj,s9⟩;have o14:=s14;have hw2:IntKind.i64.wrap (↑j+1)=((j+1:Nat):Int):=dw (by omega);apply aA;refine aR fun K' hK=> ?_
      simp[s13,s14,gE];apply hK;clear K' hK;refine aC fun A B hA hB=> ?_
      simp;refine⟨fun hj2=>hA ?_,fun hj2=>hB ?_⟩<;>clear hA hB A B<;>(try simp at hj2)<;>(try with_reducible refine aK ?_)
      ·have hst:=lC (p:=fun d:Dep=>decide (d.name=nm)) hj2;generalize hin2:(y0 || (E.take j).any fun d=>decide (d.name=nm))=y at*;apply aB
       cases y with
       | true=>
        refine aT fun K' hK=> ?_
        simp(maxSteps:=1000000) [s9];apply hK;clear K' hK;apply ak
        refine ah ?_;refine aS fun K' hK=> ?_
        simp[s14,hw2];apply hK;clear K' hK;refine ak (ay ?_ ?_)
        ·exact⟨by simp[s1],by simp[s2],by simp[g0],by omega,by simp[s5],by simp[s7],by simp[s8],by simp[gb],by simp[s10],by simp[s13],by simp[gE],j+1,by simp[hw2],by omega,by rw[hst,←Bool.or_assoc,hin2];simp⟩
        ·simp[o14,s14,hw2];omega
       | false=>
        refine aT fun K' hK=> ?_
        simp(maxSteps:=1000000) [s5,s7,s9,s13,s14,gE,hj2,hk2,hnm];apply hK;clear K' hK;apply ak
        refine ah ?_;refine aS fun K' hK=> ?_
        simp[s14,hw2];apply hK;clear K' hK;refine ak (ay ?_ ?_)
        ·exact⟨by simp[s1],by simp[s2],by simp[g0],by omega,by simp[s5],by simp[s7],by simp[s8],by simp[gb],by simp[s10],by simp[s13],by simp[gE],j+1,by simp[hw2],by omega,by rw[hst,←Bool.or_assoc,hin2];simp⟩
        ·simp[o14,s14,hw2];omega
      ·skip;apply bG
       refine aI (aH ?_);with_reducible refine bP ?_
       have hje:j=E.length:=(by omega);subst hje;rw[List.take_length]at s9;exact⟨s1,s2,g0,by omega,s5,s7,s8,gb,s10,s9⟩
     clear s1 s2 s5 s7 s8 s9 s10 s11 g0 gb k0 k1 k2 hT;rintro s X nz ⟨s1,s2,g0,hnz,s5,s7,s8,gb,s10,s9⟩;apply ak
     refine ah ?_;refine aS fun K' hK=> ?_
     simp[s10,hw1];apply hK;clear K' hK;refine ak (ay ?_ ?_)
     ·exact⟨by simp[s1],by simp[s2],by simp[g0],by omega,by simp[s5],by simp[s7],by simp[s8],by simp[gb],i+1,by simp[hw1],by omega,by rw[hstep,hP];simp[s9]⟩
     ·simp[o10,s10,hw1];omega
    ·skip;apply bG
     refine aI (aH ?_);with_reducible refine bP ?_
     have hie:i=bl.length:=(by omega);subst hie;rw[List.take_length,hall]at s9;exact⟨s1,s2,g0,by omega,s5,s7,s9⟩
   clear s1 s2 g0 s5 s7;rintro s G nx ⟨s1,s2,g0,hnx,s5,s7,s9⟩;refine aR fun K' hK=> ?_
   simp[s9];apply hK;clear K' hK;refine aVk (by simp) ?_;apply ak
   refine ah ?_;refine aS fun K' hK=> ?_
   simp[s7,hw];apply hK;clear K' hK;refine ak (ay ?_ ?_)
   ·exact⟨by simp[s1],by simp[s2],by simp[g0],by omega,by simp[s5],k+1,by simp[hw],by omega,by omega⟩
   ·simp[o7,s7,hw];omega
  ·skip;apply bG
   refine aI (aH ?_);refine aR fun K' hK=> ?_
   simp;refine aj hB rfl (by first | rfl | (simp;done) | (simp;rfl) | (simp;exact⟨rfl,rfl⟩)) ?_;simp;apply hK;clear K' hK;apply aG
   simp[au,aF,Post,bC,res1,bF,bg,aP,bf,aW,okT,okA,ok1,rowOf,Tryz.f7]
 ·rw[vS hc]at hU;refine aR fun K' hK=> ?_
  simp[s1,s2,g0];refine aN hU (by first | rfl | (simp;done) | (simp;rfl) | (simp;exact⟨rfl,rfl⟩)) ?_;simp[bH];apply hK;clear K' hK;apply aA;refine aR fun K' hK=> ?_
  simp[hc];apply hK;clear K' hK;refine aX (by simp) ?_;apply aA;refine aR fun K' hK=> ?_
  simp;refine aj hB rfl (by first | rfl | (simp;done) | (simp;rfl) | (simp;exact⟨rfl,rfl⟩)) ?_;simp;apply hK;clear K' hK;apply aJ
  simp[au,aF,Post,bC,res1,bF,bg,aP,bf,aW,okT,okA,ok1,rowOf,Tryz.f7]
end Go.Proofs.YtmmbgjmigmchbaaGreatDoorAbs
