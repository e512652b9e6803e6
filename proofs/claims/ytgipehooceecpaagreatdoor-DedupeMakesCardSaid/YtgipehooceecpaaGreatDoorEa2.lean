/- From the data of a statement's arguments to trees. -/
import Derived.Test.YtgipehooceecpaaGreatDoorEa1
import Derived.RangeFuncIn
import Derived.RangeFuncRecord
import Derived.LoopIn
import Derived.Scope
import Derived.RangeFuncLeaves
import Derived.ChangeShapes
import Derived.ChangeArms
import Derived.WideShapes
import Derived.ShutString
import Derived.Carry
import Derived.ProofKit
import Derived.OpenShut
import Derived.SizedLaws
import Derived.ChangeOld
namespace Go.Proofs.YtgipehooceecpaaGreatDoorAbs
set_option linter.unusedSectionVars false
set_option linter.unusedVariables false
set_option linter.unusedSimpArgs false
open Go Go.RowKit
inductive Eff (P:Program) [Gl P] (ops:Array Oper) (o:Oper) (s:Sl) (G:Hp):AV→Hp→Prop
 | off (hw:wantA ops o s=some false):Eff P ops o s G .und G
 | op {G':Hp} {val:AV} {nx nx':Nat} (hw:wantA ops o s=some true) (hm:mustPure ops o=false) (hn:G nx=none) (he:evC P s G nx o=some (val,G',nx')):Eff P ops o s G val G'
 | pure {val:AV} (hw:wantA ops o s=some true) (hm:mustPure ops o=true) (hp:pureA P s o=some val):Eff P ops o s G val G
 | call {G':Hp} {f:FuncId} {as ts:List AV} {r:AV} {J:Js} {nx:Nat} (hw:wantA ops o s=some true) (hc:callA s o=some (f,as)) (ha:argsOf P G as=some (ts,G'))
   (hn:∀j,nx≤j∧j-nx<J.length→G j=Option.none) (hk:CallsOK P f ts r J):Eff P ops o s G (shiftT nx r) (addJ G' nx J)
 | keep {f:FuncId} {as ts:List AV} {r:AV} {J:Js} {nx:Nat} (hw:wantA ops o s=some true) (hc:callA s o=some (f,as)) (ha:seesA P G as=some ts)
   (hn:∀j,nx≤j∧j-nx<J.length→G j=Option.none) (hk:CallsOK P f ts r J) (hkeep:flatR r=true∧flatJ J=true):Eff P ops o s G (shiftT nx r) (addJ G nx J)
 | inl {G':Hp} {f:FuncId} {as:List AV} {v:AV} (hw:wantA ops o s=some true) (hc:callA s o=some (f,as)) (hne:as≠[]∧Gl.inl P f=true) (hk:InlOK P f as G v G') (hg:clsOf o=3∨Grows G G') (hfin:Fin G→Fin G'):Eff P ops o s G v G'
section
variable {P:Program} [Gl P] {N:Nat} {ops:Array Oper} {s s' s1 s2:Sl} {G G' G1 G2:Hp}
theorem step_iff {i:Nat} {o:Oper} (hi:ops[i]? =some o):Step P N ops i s G s' G'↔dstOK N o=true∧∃val,s'=s.put o.dst val∧Eff P ops o s G val G':=by
 constructor
 ·intro h;cases h with
  | none h=>rw[hi]at h;cases h
  | off h hd hw=>rw[hi]at h;injection h with h;subst h;exact⟨hd,_,rfl,.off hw⟩
  | op h hd hw hm hn he=>rw[hi]at h;injection h with h;subst h;exact⟨hd,_,rfl,.op hw hm hn he⟩
  | pure h hd hw hm hp=>rw[hi]at h;injection h with h;subst h;exact⟨hd,_,rfl,.pure hw hm hp⟩
  | call h hd hw hc ha hn hk=>rw[hi]at h;injection h with h;subst h;exact⟨hd,_,rfl,.call hw hc ha hn hk⟩
  | keep h hd hw hc ha hn hk hkeep=>rw[hi]at h;injection h with h;subst h;exact⟨hd,_,rfl,.keep hw hc ha hn hk hkeep⟩
  | inl h hd hw hc hne hk hg hf=>rw[hi]at h;injection h with h;subst h;exact⟨hd,_,rfl,.inl hw hc hne hk hg hf⟩
 ·rintro⟨hd,val,rfl,h⟩;cases h with
  | off hw=>exact .off hi hd hw
  | op hw hm hn he=>exact .op hi hd hw hm hn he
  | pure hw hm hp=>exact .pure hi hd hw hm hp
  | call hw hc ha hn hk=>exact .call hi hd hw hc ha hn hk
  | keep hw hc ha hn hk hkeep=>exact .keep hi hd hw hc ha hn hk hkeep
  | inl hw hc hne hk hg hf=>exact .inl hi hd hw hc hne hk hg hf
theorem addJ_fin {nx:Nat} {J:Js} (h:Fin G):Fin (addJ G nx J):=by
 obtain⟨n,h⟩:=h;refine⟨n+nx+J.length,fun i hi=> ?_⟩;show(if nx≤i∧i-nx<J.length then ofJ J (i-nx)else G i)=none;rw[if_neg (by omega)];exact h i (by omega)
theorem Eff.fin {o:Oper} {val:AV} (h:Eff P ops o s G val G') (hf:Fin G):Fin G':=by
 cases h with
 | off=>exact hf
 | pure=>exact hf
 | @op _ _ nx nx' hw hm hn he=>
  obtain⟨n,hf⟩:=hf;rcases evC_none he with⟨_,h2⟩ | ⟨_,h2⟩
  ·exact⟨n,fun i hi=>h2 i (hf i hi)⟩
  ·exact⟨n+nx+1,fun i hi=>h2 i (by omega) (hf i (by omega))⟩
 | call hw hc ha hn hk=>
  obtain⟨n,hf⟩:=hf;exact addJ_fin ⟨n,fun i hi=>args_none ha (hf i hi)⟩
 | keep hw hc ha hn hk=>exact addJ_fin hf
 | inl hw hc hne hk hg hfin=>exact hfin hf
def Same (ops:Array Oper) (o:Oper) (s s':Sl):Prop:=(∀x∈o.op.operands,evX s' x=evX s x)∧wantA ops o s'=wantA ops o s
theorem callA_cls {o:Oper} {r:FuncId×List AV} (h:callA s o=some r):2≤clsOf o:=by
 unfold callA at h;split at h
 ·rename_i c hop;split at h
  ·rename_i f' hc;simp only[clsOf,hop,hc];omega
  ·rename_i t hc;simp only[clsOf,hop,hc];omega
  ·cases h
 ·cases h
theorem callA_same {o:Oper} (hs:∀x∈o.op.operands,evX s' x=evX s x):callA s' o=callA s o:=by
 unfold callA;split
 ·rename_i c hop;rw[hop]at hs;have args:c.args.toList.map (evX s')=c.args.toList.map (evX s):=List.map_congr_left fun x hx=>hs x (by simp only[Op.operands,Call.operands,Array.mem_append];exact .inr (by simpa using hx));split
  ·rw[args]
  ·rename_i t hc;have ht:s' t=s t:=hs (.tmp t) (by simp[Op.operands,Call.operands,hc]);rw[args,ht]
  ·rfl
 ·rfl
theorem callA_pure {o:Oper} {r:FuncId×List AV} (h:callA s o=some r):mustPure ops o=false:=by
 unfold callA at h;split at h
 ·rename_i c hop;split at h
  ·rename_i f' hc;simp[mustPure,hop,hc]
  ·rename_i t hc;simp[mustPure,hop,hc]
  ·cases h
 ·cases h
theorem pureA_congr {o:Oper} (hs:∀x∈o.op.operands,evX s' x=evX s x):pureA P s' o=pureA P s o:=by
 unfold pureA;split
 ·rename_i t n ps hop;rw[hop]at hs;have h1:∀p∈ps.toList,evX s' p.2=evX s p.2:=fun p hp=>hs p.2 (by simp only[Op.operands,List.mem_toArray,List.mem_map];exact⟨p,hp,rfl⟩);have e1:(ps.toList.flatMap fun p=>(evX s' p.2).cells)=ps.toList.flatMap fun p=>(evX s p.2).cells:=by
   rw[List.flatMap_def,List.flatMap_def];congr 1;exact List.map_congr_left fun p hp=>by rw[h1 p hp]
  have e2:∀k,(ps.toList.all fun p=>decide ((evX s' p.2).cells.length=k)&&(evX s' p.2).cells.all fun a=>AV.one a&&isVal a)=ps.toList.all fun p=>decide ((evX s p.2).cells.length=k)&&(evX s p.2).cells.all fun a=>AV.one a&&isVal a:=by
   intro k;rw[Bool.eq_iff_iff,List.all_eq_true,List.all_eq_true];exact⟨fun hh p hp=>by rw[←h1 p hp];exact hh p hp,fun hh p hp=>by rw[h1 p hp];exact hh p hp⟩
  simp only[e1,e2]
 ·rename_i c hop;rw[hop]at hs;split
  ·split
   ·rename_i x t hx ht;have:evX s' x=evX s x:=hs x (by simp only[Op.operands,Call.operands,Array.mem_append];exact .inr (by simp[←Array.mem_toList_iff,hx]));rw[this]
   ·rfl
  ·rfl
 ·rfl
theorem Eff.congr {o:Oper} {val:AV} (hs:Same ops o s s') (h:Eff P ops o s G val G'):Eff P ops o s' G val G':=by
 have hc':=callA_same hs.1;cases h with
 | off hw=>exact .off (hs.2.trans hw)
 | op hw hm hn he=>exact .op (hs.2.trans hw) hm hn ((evC_congr hs.1).trans he)
 | pure hw hm hp=>exact .pure (hs.2.trans hw) hm ((pureA_congr hs.1).trans hp)
 | call hw hc ha hn hk=>exact .call (hs.2.trans hw) (hc'.trans hc) ha hn hk
 | keep hw hc ha hn hk hkeep=>exact .keep (hs.2.trans hw) (hc'.trans hc) ha hn hk hkeep
 | inl hw hc hne hk hg hf=>exact .inl (hs.2.trans hw) (hc'.trans hc) hne hk hg hf
theorem evC_val {o:Oper} (hc:clsOf o=0) {val:AV} {nx nx':Nat} (h:evC P s G nx o=some (val,G',nx')):G'=G∧∀G2 nx2,evC P s G2 nx2 o=some (val,G2,nx2):=by
 have as:∀x,o.op=.assign x→(x=.const (.slice none 0 0)→False)→∀G nx,evC P s G nx o=evOp P s G nx (.assign x):=by
  intro x hop hx G nx;unfold evC;split
  ·rename_i h1;rw[hop]at h1;cases h1
  ·rename_i h1;rw[hop]at h1;injection h1 with h1;exact(hx h1).elim
  ·rename_i h1;rw[hop]at h1;cases h1
  ·rename_i h1;rw[hop]at h1;cases h1
  ·rename_i h1;rw[hop]at h1;cases h1
  ·rename_i h1;rw[hop]at h1;cases h1
  ·rename_i h1;rw[hop]at h1;cases h1
  ·rename_i h1;rw[hop]at h1;cases h1
  ·rw[hop]
 have bin:∀op t x y z,o.op=.binOp op t x y z→∀G nx,evC P s G nx o=match nilCmp P op t (evX s x) (evX s y)with | some v=>some (v,G,nx) | none=>evOp P s G nx (.binOp op t x y z):=by
  intro op t x y z hop G nx;unfold evC;rw[hop];rfl
 unfold clsOf at hc;split at hc<;>rename_i hop<;>try (cases hc;done)
 case h_4 op t x y z=>
  rw[bin op t x y z hop]at h;simp only[bin op t x y z hop];split at h
  ·simp only[Option.some.injEq,Prod.mk.injEq]at h;obtain⟨rfl,rfl,rfl⟩:=h;exact⟨rfl,fun _ _=>rfl⟩
  ·exact evOp_val trivial h
 all_goals first
  | (unfold evC at h⊢;rw[hop]at h⊢;exact evOp_val trivial h)
  | skip
 ·rename_i hx;simp only[as _ hop hx]at h⊢;exact evOp_val trivial h
 ·split at hc<;>cases hc
theorem clsR_of {o:Oper} (hm:mustPure ops o=false):clsR ops o=clsOf o:=by simp[clsR,hm]
theorem clsR_pure {o:Oper} (hm:mustPure ops o=true):clsR ops o=0:=by simp[clsR,hm]
theorem Eff.val {o:Oper} (hc:clsR ops o=0) {val:AV} (h:Eff P ops o s G val G'):G'=G∧∀G2,Fin G2→Eff P ops o s G2 val G2:=by
 cases h with
 | off hw=>exact⟨rfl,fun G2 _=> .off hw⟩
 | pure hw hm hp=>exact⟨rfl,fun G2 _=> .pure hw hm hp⟩
 | op hw hm hn he=>
  obtain⟨h1,h2⟩:=evC_val ((clsR_of hm).symm.trans hc) he;exact⟨h1,fun G2 ⟨n,hf⟩=> .op hw hm (hf n (Nat.le_refl _)) (h2 G2 n)⟩
 | call hw hc'=>have:=callA_cls hc';rw[clsR_of (callA_pure hc')]at hc;omega
 | keep hw hc'=>have:=callA_cls hc';rw[clsR_of (callA_pure hc')]at hc;omega
 | inl hw hc'=>have:=callA_cls hc';rw[clsR_of (callA_pure hc')]at hc;omega
theorem Eff.read {o:Oper} (hc:clsR ops o=1) {val:AV} (h:Eff P ops o s G val G'):G'=G∧∀G2,Fin G2→(∀x∈o.op.operands,SameAt G G2 (evX s x))→Eff P ops o s G2 val G2:=by
 cases h with
 | off hw=>exact⟨rfl,fun G2 _ _=> .off hw⟩
 | pure hw hm hp=>rw[clsR_pure hm]at hc;cases hc
 | op hw hm hn he=>
  obtain⟨h1,h2⟩:=evC_read ((clsR_of hm).symm.trans hc) he;exact⟨h1,fun G2 ⟨n,hf⟩ hs=> .op hw hm (hf n (Nat.le_refl _)) (h2 G2 n hs)⟩
 | call hw hc'=>have:=callA_cls hc';rw[clsR_of (callA_pure hc')]at hc;omega
 | keep hw hc'=>have:=callA_cls hc';rw[clsR_of (callA_pure hc')]at hc;omega
 | inl hw hc'=>have:=callA_cls hc';rw[clsR_of (callA_pure hc')]at hc;omega
theorem Eff.make {o:Oper} (hc:clsR ops o=2) {val:AV} (h:Eff P ops o s G val G'):Grows G G':=by
 cases h with
 | off hw=>exact .refl _
 | pure hw hm hp=>rw[clsR_pure hm]at hc;cases hc
 | op hw hm hn he=>exact evC_make ((clsR_of hm).symm.trans hc) hn he
 | call hw hc' ha hn hk=>exact(Grows.args ha).trans (.addJ fun j hj=>args_none ha (hn j hj))
 | keep hw hc' ha hn hk=>exact .addJ hn
 | inl hw hc' hne hk hg hf=>exact hg.resolve_left (by rw[clsR_of (callA_pure hc')]at hc;omega)
theorem Eff.grows {o:Oper} (hc:clsR ops o≤2) {val:AV} (h:Eff P ops o s G val G'):Grows G G':=by
 rcases Nat.lt_or_ge (clsR ops o) 2 with h1 | h1
 ·rcases Nat.lt_or_ge (clsR ops o) 1 with h2 | h2
  ·rw[(h.val (by omega)).1];exact .refl _
  ·rw[(h.read (by omega)).1];exact .refl _
 ·exact h.make (by omega)
def compat (ops:Array Oper) (x y:Oper):Bool:=clsR ops x==0 || clsR ops y==0 || (clsR ops x==1&&clsR ops y==1) || (clsR ops x==1&&clsR ops y==2) || (clsR ops x==2&&clsR ops y==1)
theorem looks_same {x y:Oper} {v:AV} (h:∀d,x.dst=some d→d∉y.looksAt ops):Same ops y s (s.put x.dst v):=by
 cases hd:x.dst with
 | none=>exact⟨fun _ _=>rfl,rfl⟩
 | some d=>
  have h1:=h d hd;refine⟨fun z hz=> ?_,?_⟩
  ·cases z with
   | tmp t=>
    show(s.upd d v) t=s t;refine Sl.upd_ne _ _ fun e=>h1 ?_;subst e;unfold Oper.looksAt;exact List.mem_append_left _ (List.mem_filterMap.2 ⟨_,by simpa using hz,rfl⟩)
   | _=>rfl
  ·unfold wantA;cases hg:y.guard with
   | none=>rfl
   | some g=>
    obtain⟨g,b⟩:=g;simp only;cases ht:(ops[g]?).bind (·.dst)with
    | none=>rfl
    | some t=>
     have:(s.put (some d) v) t=s t:=Sl.upd_ne _ _ fun e=>h1 (by
      subst e;unfold Oper.looksAt;exact List.mem_append_right _ (by simp[hg,ht]))
     simp only[this]
theorem put_comm {d e:Option Tmp} {u v:AV} (h:∀t,d=some t→e≠some t):(s.put d u).put e v=(s.put e v).put d u:=by
 cases d with
 | none=>rfl
 | some d=>
  cases e with
  | none=>rfl
  | some e=>
   have:d≠e:=fun hde=>h d rfl (by rw[hde]);funext t;simp only[Sl.put,Sl.upd];by_cases h1:t=e<;>by_cases h2:t=d<;>simp_all
theorem swap {i j:Nat} {oi oj:Oper} (hi:ops[i]? =some oi) (hj:ops[j]? =some oj) (hap:oj.apart ops oi=true) (hc:compat ops oj oi=true) (hf:Fin G) (hK:clsR ops oi=0∨∀x∈oi.op.operands,∀id,rootA (evX s x)=some id→∃o,G id=some o)
  (h1:Step P N ops j s G s1 G1) (h2:Step P N ops i s1 G1 s2 G2):∃s1' G1',Step P N ops i s G s1' G1'∧Step P N ops j s1' G1' s2 G2:=by
 obtain⟨a1,a2,a3⟩:=Oper.apart_spec hap;obtain⟨hd1,u,rfl,e1⟩:=(step_iff hj).1 h1;obtain⟨hd2,v,rfl,e2⟩:=(step_iff hi).1 h2;have si:Same ops oi s (s.put oj.dst u):=looks_same a1;have si':Same ops oi (s.put oj.dst u) s:=⟨fun x hx=>(si.1 x hx).symm,si.2.symm⟩;have sj:Same ops oj s (s.put oi.dst v):=looks_same a3;have e2':=e2.congr si';have fin:∀ {G1':Hp},Eff P ops oi s G v G1'→Eff P ops oj s G1' u G2→∃s1' G1',Step P N ops i s G s1' G1'∧Step P N ops j s1' G1' ((s.put oj.dst u).put oi.dst v) G2:=by
  intro G1' x1 x2;exact⟨_,_,(step_iff hi).2 ⟨hd2,v,rfl,x1⟩,(step_iff hj).2 ⟨hd1,u,put_comm a2,x2.congr sj⟩⟩
 by_cases ci:clsR ops oi=0
 ·obtain⟨q1,q2⟩:=e2'.val ci;subst q1;exact fin (q2 G hf) e1
 by_cases cj:clsR ops oj=0
 ·obtain⟨q1,q2⟩:=e1.val cj;subst q1;exact fin e2' (q2 G2 (e2.fin hf))
 have hK:=hK.resolve_left ci;simp only[compat,Bool.or_eq_true,Bool.and_eq_true,beq_iff_eq]at hc;rcases hc with(((hc | hc) | hc) | hc) | hc
 ·exact absurd hc cj
 ·exact absurd hc ci
 ·obtain⟨q1,_⟩:=e1.read hc.1;obtain⟨q2,_⟩:=e2'.read hc.2;subst q1;subst q2;exact fin e2' e1
 ·obtain⟨q1,q2⟩:=e1.read hc.1;subst q1;exact fin e2' (q2 G2 (e2.fin hf) fun x _=>(e2'.make hc.2).at _)
 ·obtain⟨q1,q2⟩:=e2'.read hc.2;subst q1;exact fin (q2 G hf fun x hx=>(e1.make hc.1).back (hK x hx)) e1
end
def okPair (ops:Array Oper) (A:List Nat) (i j:Nat):Bool:=(A.getD i 0).testBit j || match ops[j]?,ops[i]? with
 | some oj,some oi=>oj.apart ops oi&&compat ops oj oi
 | _,_=>true
def backE (ops:Array Oper) (i:Nat):Bool:=match ops[i]? with
 | some o=>o.after.toList.all fun e=> !Region.binds .any e || decide (e.on<i)
 | none=>true
def okDraw (ops:Array Oper):Bool:=
 let A:=ancGo ops.toList []
 (List.range ops.size).all fun i=>backE ops i&&(List.range i).all fun j=>okPair ops A i j
theorem maskOf_bit {o:Oper} {acc:List Nat} {j:Nat} (h:(maskOf o acc).testBit j=true):∃e∈o.after.toList,Region.binds .any e=true∧(e.on=j∨(acc.getD e.on 0).testBit j=true):=by
 have gen:∀(l:List Edge) (m:Nat),(l.foldl (fun m e=>if Region.binds .any e=true then m ||| (2^e.on ||| acc.getD e.on 0)else m) m).testBit j=true→m.testBit j=true∨∃e∈l,Region.binds .any e=true∧(e.on=j∨(acc.getD e.on 0).testBit j=true):=by
  intro l;induction l with
  | nil=>intro m h;exact .inl h
  | cons e l ih=>
   intro m h;rw[List.foldl_cons]at h;rcases ih _ h with h1 | ⟨e',he',h1⟩
   ·split at h1
    ·rename_i hb;rw[Nat.testBit_or,Nat.testBit_or,Nat.testBit_two_pow]at h1;simp only[Bool.or_eq_true,decide_eq_true_eq]at h1;rcases h1 with h1 | h1 | h1
     ·exact .inl h1
     ·exact .inr ⟨e,by simp,hb,.inl h1⟩
     ·exact .inr ⟨e,by simp,hb,.inr h1⟩
    ·exact .inl h1
   ·exact .inr ⟨e',List.mem_cons_of_mem _ he',h1⟩
 rcases gen _ 0 h with h | h
 ·simp at h
 ·exact h
theorem getD_app {l r:List Nat} {i:Nat} (h:i<l.length):(l++r).getD i 0=l.getD i 0:=by
 rw[List.getD_eq_getElem?_getD,List.getD_eq_getElem?_getD,List.getElem?_append_left h]
def MaskOK (ops:List Oper) (A:List Nat):Prop:=∀i,i<A.length→∃o,ops[i]? =some o∧∀j,(A.getD i 0).testBit j=true→∃e∈o.after.toList,Region.binds .any e=true∧(e.on=j∨(e.on<i∧(A.getD e.on 0).testBit j=true))
theorem ancGo_ok:∀(r:List Oper) (pre:List Oper) (acc:List Nat),acc.length=pre.length→MaskOK pre acc→MaskOK (pre++r) (ancGo r acc)
 | [],pre,acc,hl,h=>by simpa [ancGo]using h
 | o::r,pre,acc,hl,h=>by
  have:=ancGo_ok r (pre++[o]) (acc++[maskOf o acc]) (by simp[hl]) (fun i hi=>by
   rw[List.length_append,List.length_singleton]at hi;by_cases h1:i<acc.length
   ·obtain⟨o',ho',hj⟩:=h i h1;refine⟨o',by rw[List.getElem?_append_left (by omega)];exact ho',fun j hb=> ?_⟩;rw[getD_app h1]at hb;obtain⟨e,he,hbd,h2⟩:=hj j hb;refine⟨e,he,hbd,h2.imp id fun h3=>⟨h3.1,?_⟩⟩;rw[getD_app (by omega)];exact h3.2
   ·have e1:i=acc.length:=(by omega);subst e1;refine⟨o,by rw[hl];simp,fun j hb=> ?_⟩;have e2:(acc++[maskOf o acc]).getD acc.length 0=maskOf o acc:=(by simp[List.getD_eq_getElem?_getD]);rw[e2]at hb;obtain⟨e,he,hbd,h2⟩:=maskOf_bit hb;refine⟨e,he,hbd,h2.imp id fun h3=> ?_⟩;rcases Nat.lt_or_ge e.on acc.length with h4 | h4
    ·exact⟨h4,by rw[getD_app h4];exact h3⟩
    ·rw[List.getD_eq_getElem?_getD,List.getElem?_eq_none h4]at h3;simp at h3)
  simpa [ancGo]using this
section
variable {P:Program} [Gl P] {N:Nat} {ops:Array Oper} {s s' s1 s2:Sl} {G G' G1 G2:Hp} {E1:En} {w1 w:World} {a:Act} {E:En}
def Closed (ops:Array Oper) (L:Nat→Prop):Prop:=∀i o,L i→ops[i]? =some o→∀e∈o.after.toList,Region.binds .any e=true→L e.on
theorem anc_listed {L:Nat→Prop} (hL:Closed ops L):∀(i:Nat) {o:Oper},ops[i]? =some o→(∀e∈o.after.toList,Region.binds .any e=true→L e.on)→∀j,((ancGo ops.toList []).getD i 0).testBit j=true→L j:=by
 have hA:=ancGo_ok ops.toList [] [] rfl (fun i hi=>by simp at hi);rw[List.nil_append]at hA;intro i;induction i using Nat.strongRecOn with
 | _ i ih=>
  intro o hi hd j hb;rcases Nat.lt_or_ge i (ancGo ops.toList []).length with h1 | h1
  ·obtain⟨o',ho',hj⟩:=hA i h1;have:o'=o:=by
    have h2:ops[i]? =some o':=(by simpa using ho');rw[hi]at h2;injection h2 with h2;exact h2.symm
   subst this;obtain⟨e,he,hbd,h2⟩:=hj j hb;rcases h2 with rfl | ⟨h2,h3⟩
   ·exact hd e he hbd
   ·have hLe:=hd e he hbd;have hlt:e.on<(ancGo ops.toList []).length:=(by omega);obtain⟨oe,hoe,_⟩:=hA e.on hlt;have hoe':ops[e.on]? =some oe:=(by simpa using hoe);exact ih e.on h2 hoe' (fun e' he' hb'=>hL e.on oe hLe hoe' e' he' hb') j h3
  ·rw[List.getD_eq_getElem?_getD,List.getElem?_eq_none h1]at hb;simp at hb
theorem VR.root {x:AV} {u:Value} {id:Nat} (h:VR P E w x u) (hr:rootA x=some id):E.K id:=by
 induction h with
 | tree h=>cases h<;>cases hr
 | ptr hK _ _=>injection hr with hr;subst hr;exact hK
 | row hK _ _ _=>injection hr with hr;subst hr;exact hK
 | ea _ _ _ ih=>exact ih hr
 | mp hK _ _=>injection hr with hr;subst hr;exact hK
 | _=>cases hr
theorem RelAt.roots (h:RelAt P N E1 w1 s G a w E) (x:Operand) (id:Nat) (hr:rootA (evX s x)=some id):∃o,G id=some o:=
 (h.rel.K id).1 ((evX_sound h.slots x).root hr)
theorem front {i:Nat} {oi:Oper} (hi:ops[i]? =some oi):∀(pre:List Nat) {post:List Nat} {s:Sl} {G:Hp},Fin G→(clsR ops oi=0∨∀x∈oi.op.operands,∀id,rootA (evX s x)=some id→∃o,G id=some o)→
  (∀j∈pre,∃oj,ops[j]? =some oj∧oj.apart ops oi=true∧compat ops oj oi=true)→Runs P N ops (pre++i::post) s G s' G'→Runs P N ops (i::(pre++post)) s G s' G'
 | [],post,s,G,_,_,_,h=>h
 | j::pre,post,s,G,hf,hK,hp,h=>by
  rw[List.cons_append]at h;cases h with
  | @cons _ _ _ s1 _ _ G1 _ h1 hr=>
   obtain⟨oj,hj,hap,hc⟩:=hp j (by simp);obtain⟨hd1,u,hs1,e1⟩:=(step_iff hj).1 h1;have hK1:clsR ops oi=0∨∀x∈oi.op.operands,∀id,rootA (evX s1 x)=some id→∃o,G1 id=some o:=by
    by_cases c0:clsR ops oi=0
    ·exact .inl c0
    ·refine .inr fun x hx id hr'=> ?_;subst hs1;have sm:Same ops oi s (s.put oj.dst u):=looks_same (Oper.apart_spec hap).1;rw[sm.1 x hx]at hr';obtain⟨o,ho⟩:=hK.resolve_left c0 x hx id hr';have cj:clsR ops oj≤2:=by
      simp only[compat,Bool.or_eq_true,Bool.and_eq_true,beq_iff_eq]at hc;omega
     rcases e1.grows cj id o ho with h2 | ⟨_,_,_,h2⟩
     ·exact⟨_,h2⟩
     ·exact⟨_,h2⟩
   have ih:=front hi pre (e1.fin hf) hK1 (fun j' hj'=>hp j' (by simp[hj'])) hr;cases ih with
   | cons h2 hr2=>
    obtain⟨s1',G1',x1,x2⟩:=swap hi hj hap hc hf hK h1 h2;exact .cons x1 (.cons x2 hr2)
theorem getD_set {L:Array Bool} {i j:Nat} (d:Bool):(L.setIfInBounds i true).getD j d=if i=j∧j<L.size then true else L.getD j d:=by
 simp only[Array.getD_eq_getD_getElem?,Array.getElem?_setIfInBounds];by_cases h:i=j
 ·subst h;by_cases h2:i<L.size
  ·simp[h2]
  ·simp[h2]
 ·simp[h]
theorem any_wp {r:Option Nat} {n:Nat} {Q:Exit→Act→World→Prop} (hok:okDraw ops=true) (hQ:∀a' w' E',RelAt P N E1 w1 s' G' a' w' E'→Q .normal a' w'):∀(fuel:Nat) (L:Array Bool) {s:Sl} {G:Hp} {a:Act} {w:World} {E:En},L.size=ops.size→Closed ops (fun i=>L.getD i false=true)→
  fuel=((List.range ops.size).filter fun i=> !L.getD i true).length→Runs P N ops ((List.range ops.size).filter fun i=> !L.getD i true) s G s' G'→Fin G→RelAt P N E1 w1 s G a w E→wpAnyIn (FW r) n P .any ops Q fuel L a w:=by
 simp only[okDraw,List.all_eq_true,Bool.and_eq_true,List.mem_range]at hok;intro fuel;induction fuel with
 | zero=>
  intro L s G a w E hsz hcl hl hr hf h;have hnil:=List.eq_nil_of_length_eq_zero hl.symm;rw[hnil]at hr;refine⟨?_,?_⟩
  ·rw[List.eq_nil_iff_forall_not_mem];intro j hj;obtain⟨h1,o,ho,_⟩:=mem_ready.1 hj;have:j∈(List.range ops.size).filter fun i=> !L.getD i true:=List.mem_filter.2 ⟨List.mem_range.2 (Array.getElem?_eq_some_iff.1 ho).1,by simp[h1]⟩;rw[hnil]at this;simp at this
  ·cases hr;exact hQ _ _ _ h
 | succ fuel ih=>
  intro L s G a w E hsz hcl hl hr hf h;refine⟨fun hnr=> ?_,fun i hir=> ?_⟩
  ·exfalso;cases hR:(List.range ops.size).filter fun i=> !L.getD i true with
   | nil=>rw[hR]at hl;simp at hl
   | cons i R=>
    have hi:i∈(List.range ops.size).filter fun i=> !L.getD i true:=(by rw[hR];simp);obtain⟨hi1,hi2⟩:=List.mem_filter.1 hi;rw[List.mem_range]at hi1;have:i∈Region.ready .any ops L:=by
     refine mem_ready.2 ⟨by simpa using hi2,_,Array.getElem?_eq_getElem hi1,fun e he hb=> ?_⟩;have hbk:=(hok i hi1).1;simp only[backE,Array.getElem?_eq_getElem hi1,List.all_eq_true,Bool.or_eq_true,Bool.not_eq_true',decide_eq_true_eq]at hbk;have hlt:=(hbk e (by simpa using he)).resolve_left (by simp[hb]);have hle:L.getD e.on true=true:=by
      cases hc:L.getD e.on true with
      | true=>rfl
      | false=>
       exfalso;have hmem:e.on∈(List.range ops.size).filter fun i=> !L.getD i true:=List.mem_filter.2 ⟨List.mem_range.2 (by omega),by simp[hc]⟩;have hsort:((List.range ops.size).filter fun i=> !L.getD i true).Pairwise (· < ·):=List.Pairwise.filter _ List.pairwise_lt_range;rw[hR]at hmem hsort;rcases List.mem_cons.1 hmem with h1 | h1
       ·omega
       ·have:=(List.pairwise_cons.1 hsort).1 _ h1;omega
     have hlt2:e.on<L.size:=(by omega);simpa [Array.getD_eq_getD_getElem?,hlt2]using hle
    rw[hnr]at this;simp at this
  ·obtain⟨hi1,oi,hi,hpre⟩:=mem_ready.1 hir;have hin:i<ops.size:=(Array.getElem?_eq_some_iff.1 hi).1;have hmem:i∈(List.range ops.size).filter fun i=> !L.getD i true:=List.mem_filter.2 ⟨List.mem_range.2 hin,by simp[hi1]⟩;obtain⟨pre,post,hR⟩:=List.append_of_mem hmem;have hsort:((List.range ops.size).filter fun i=> !L.getD i true).Pairwise (· < ·):=List.Pairwise.filter _ List.pairwise_lt_range;have hprelt:∀j∈pre,j<i:=fun j hj=>by
    rw[hR]at hsort;exact(List.pairwise_append.1 hsort).2.2 j hj i (by simp)
   rw[hR]at hr;have hfr:=front hi pre hf (.inr fun x _ id hr'=>h.roots x id hr') (fun j hj=>by
    have hjm:j∈(List.range ops.size).filter fun i=> !L.getD i true:=(by rw[hR];simp[hj]);obtain⟨hj1,hj2⟩:=List.mem_filter.1 hjm;rw[List.mem_range]at hj1;refine⟨_,Array.getElem?_eq_getElem hj1,?_⟩;have hp:=(hok i hin).2 j (by simpa using hprelt j hj);simp only[okPair,Bool.or_eq_true,hi,Array.getElem?_eq_getElem hj1,Bool.and_eq_true]at hp;rcases hp with hp | hp
    ·exfalso;have:=anc_listed hcl i hi (fun e he hb=>hpre e (by simpa using he) hb) j hp;have hlt2:j<L.size:=(by omega);simp[Array.getD_eq_getD_getElem?,hlt2]at this hj2;rw[this]at hj2;cases hj2
    ·exact hp) hr
   cases hfr with
   | @cons _ _ _ s1 _ _ G1 _ h1 hr2=>
    have hf1:Fin G1:=by
     obtain⟨_,u,_,e1⟩:=(step_iff hi).1 h1;exact e1.fin hf
    refine step_wp h1 h fun a' w' E' h'=> ?_;have hpp:pre++post=(List.range ops.size).filter fun j=> !(L.setIfInBounds i true).getD j true:=by
     have e1:((List.range ops.size).filter fun j=> !(L.setIfInBounds i true).getD j true)=((List.range ops.size).filter fun i=> !L.getD i true).filter fun j=>decide (j≠i):=by
      rw[List.filter_filter];refine List.filter_congr fun j hj=> ?_;rw[List.mem_range]at hj;rw[getD_set];by_cases hij:i=j
      ·subst hij;have:i<L.size:=(by omega);simp[this]
      ·have hji:¬j=i:=fun e=>hij e.symm;simp[hij,hji]
     rw[e1,hR,List.filter_append,List.filter_cons];have q1:pre.filter (fun j=>decide (j≠i))=pre:=List.filter_eq_self.2 fun j hj=>(by have:=hprelt j hj;simp;omega);have q2:post.filter (fun j=>decide (j≠i))=post:=List.filter_eq_self.2 fun j hj=>by
      rw[hR]at hsort;have:=(List.pairwise_cons.1 (List.pairwise_append.1 hsort).2.1).1 j hj;simp;omega
     rw[q1,q2,if_neg (by simp)]
    refine ih _ (by simp[hsz]) (fun j o hj ho e he hb=> ?_) ?_ (by rw[←hpp];exact hr2) hf1 h'
    ·simp only[getD_set]at hj⊢;split
     ·rfl
     ·split at hj
      ·rename_i h2;obtain⟨rfl,_⟩:=h2;rw[hi]at ho;injection ho with ho;subst ho;exact hpre e (by simpa using he) hb
      ·exact hcl j o hj ho e he hb
    ·rw[←hpp];rw[hR]at hl;simp at hl⊢;omega
theorem drawn_wp {r:Option Nat} {n:Nat} {Q:Exit→Act→World→Prop} {id:Nat} (hm:P.follows .mixedOrders=true) (hok:okDraw ops=true) (hr:Runs P N ops (List.range ops.size) s G s' G') (hf:Fin G) (h:RelAt P N E1 w1 s G a w E) (hQ:∀a' w' E',RelAt P N E1 w1 s' G' a' w' E'→Q .normal a' w'):(Code.region id ops true).wpIn (FW r) n P Q a w:=by
 have hb:Below w.heap.size w {w with drawn:=w.drawn+1} :=⟨rfl,rfl,rfl,Nat.le_refl _,fun _ _=>rfl⟩;obtain⟨hR,he⟩:=h.rel.below hb;have h':RelAt P N E1 w1 s G a {w with drawn:=w.drawn+1} E:=⟨fun t=>(h.slots t).ext he (En.Le.refl _ _),hR,h.ext.trans he (fun b hb hW=>h.le.W b hb hW),h.le,h.defers.ext he (fun _ _ h=>h),h.size⟩;have hall:((List.range ops.size).filter fun i=> !(Array.replicate ops.size false).getD i true)=List.range ops.size:=List.filter_eq_self.2 fun i hi=>by
  rw[List.mem_range]at hi;simp[Array.getD_eq_getD_getElem?,hi]
 refine wpIn_region_any hm (any_wp hok hQ ops.size _ (by simp) (fun i o hi=> ?_) (by rw[hall];simp) (by rw[hall];exact hr) hf h');simp[Array.getD_eq_getD_getElem?,Array.getElem?_replicate]at hi;split at hi<;>simp at hi
def lateO (o:Oper) (p:Tmp):Bool:=match o.op,o.guard with
 | .store _ (.tmp q) _,none=>q==p
 | _,_=>false
def mayO (qs:List Tmp) (o:Oper):Bool:=match o.guard with
 | some _=>false
 | none=>match o.op with
  | .load _ (.tmp q)=>qs.contains q
  | .buildSlice _ _ _=>true
  | .call c=>match c.callee with
   | .value (.func _)=>c.args.size==0
   | _=>false
  | _=>false
def fixT (ops:Array Oper) (p:Tmp):Bool:=ops.toList.all fun o=>o.dst !=some p
def latePair (ops:Array Oper) (p:Option Tmp) (qs:List Tmp) (i j:Nat):Bool:=match p,ops[j]?,ops[i]? with
 | some p,some oj,some oi=>oj.apart ops oi&&lateO oi p&&mayO qs oj
 | _,_,_=>false
def allocO (o:Oper):Bool:=match o.op,o.guard with
 | .alloc _,none=>true
 | _,_=>false
def callO (P:Program) [Gl P] (o:Oper):Bool:=match o.op with
 | .call c=>match c.callee with
  | .value (.func f)=> !Gl.inl P f
  | _=>false
 | _=>false
def allocPair (P:Program) [Gl P] (ops:Array Oper) (i j:Nat):Bool:=match ops[j]?,ops[i]? with
 | some oj,some oi=>oj.apart ops oi&&allocO oi&&callO P oj
 | _,_=>false
def makeO (o:Oper):Bool:=match o.op,o.guard with
 | .alloc _,none=>true
 | .buildSlice _ _ _,none=>true
 | _,_=>false
def makePair (ops:Array Oper) (i j:Nat):Bool:=match ops[j]?,ops[i]? with
 | some oj,some oi=>oj.apart ops oi&&makeO oi&&makeO oj
 | _,_=>false
def fixO (ops:Array Oper) (p:Option Tmp):Bool:=match p with
 | some p=>fixT ops p
 | none=>true
def okDrawL (P:Program) [Gl P] (ops:Array Oper) (p:Option Tmp) (qs:List Tmp):Bool:=
 let A:=ancGo ops.toList []
 !regP ops&&fixO ops p&&qs.all (fixT ops)&&(List.range ops.size).all fun i=>backE ops i&&(List.range i).all fun j=>okPair ops A i j || (latePair ops p qs i j || (allocPair P ops i j || makePair ops i j))
def LateS (s:Sl) (p:Option Tmp) (qs:List Tmp):Prop:=∀p',p=some p'→∃id off,s p'=.ptr id off∧∀q∈qs,rootA (s q)≠some id
theorem LateS.put {p:Option Tmp} {qs:List Tmp} (h:LateS s p qs) {o:Oper} {v:AV} (hp:∀p',p=some p'→o.dst≠some p') (hq:∀q∈qs,o.dst≠some q):LateS (s.put o.dst v) p qs:=by
 intro p' hp';obtain⟨id,off,h1,h2⟩:=h p' hp';have e:∀t,o.dst≠some t→(s.put o.dst v) t=s t:=fun t ht=>by
  cases hd:o.dst with
  | none=>rfl
  | some d=>exact Sl.upd_ne _ _ fun e=>ht (by rw[hd,e])
 exact⟨id,off,(e p' (hp p' hp')).trans h1,fun q hqq=>by rw[e q (hq q hqq)];exact h2 q hqq⟩
theorem fixO_spec {p:Option Tmp} (h:fixO ops p=true):∀p',p=some p'→fixT ops p'=true:=fun p' hp=>by subst hp;exact h
theorem fixT_spec {p:Tmp} (h:fixT ops p=true) {i:Nat} {o:Oper} (hi:ops[i]? =some o):o.dst≠some p:=by
 have:=List.all_eq_true.1 h o (Array.mem_toList_iff.2 (Array.mem_of_getElem? hi));simpa using this
theorem Hp.upd_swap (G:Hp) {i j:Nat} (a b:AObj) (h:i≠j):(G.upd i a).upd j b=(G.upd j b).upd i a:=by
 funext k;simp only[Hp.upd];by_cases h1:k=i
 ·subst h1;rw[if_neg h,if_pos rfl,if_pos rfl]
 ·rw[if_neg h1,if_neg h1]
theorem treesOf_upd {id:Nat} {t0:TypeId} {cs cs':List AV} :∀(as:List AV) {G:Hp},G id=some (.var t0 cs)→
  (∀ts G',treesOf P G as=some (ts,G')→G' id=some (.var t0 cs)∧treesOf P (G.upd id (.var t0 cs')) as=some (ts,G'.upd id (.var t0 cs')))∧(treesOf P G as=none→treesOf P (G.upd id (.var t0 cs')) as=none)
 | [],G,hG=>⟨fun ts G' h=>by simp[treesOf]at h⊢;obtain⟨rfl,rfl⟩:=h;exact⟨hG,rfl,rfl⟩,fun h=>by simp[treesOf]at h⟩
 | a::as,G,hG=>by
  have t1:treeOf P (G.upd id (.var t0 cs')) a=treeOf P G a:=by
   (cases a<;>try rfl);rename_i r n;simp only[treeOf];by_cases hr:r=id
   ·subst hr;rw[Hp.upd_self,hG]
   ·rw[Hp.upd_ne _ _ hr]
  have t2:frzOf (G.upd id (.var t0 cs')) a=(frzOf G a).upd id (.var t0 cs')∧(frzOf G a) id=some (.var t0 cs):=by
   (cases a<;>try exact⟨rfl,hG⟩);rename_i r n;simp only[frzOf];by_cases hr:r=id
   ·subst hr;rw[Hp.upd_self,hG];exact⟨rfl,hG⟩
   ·rw[Hp.upd_ne _ _ hr];have hri:id≠r:=fun e=>hr e.symm;cases hGr:G r with
    | none=>exact⟨rfl,hG⟩
    | some o=>
     (cases o<;>try exact⟨rfl,hG⟩);rename_i e c;cases c with
     | nil=>exact⟨rfl,hG⟩
     | cons c cs=>exact⟨Hp.upd_swap _ _ _ hri,by show G.upd r _ id=_;rw[Hp.upd_ne _ _ hri];exact hG⟩
  obtain⟨ih1,ih2⟩:=treesOf_upd (cs':=cs') as t2.2;simp only[treesOf,t1,t2.1];cases h1:treeOf P G a with
  | none=>exact⟨fun ts G' h=>by simp at h,fun _=>rfl⟩
  | some x=>
   cases h2:treesOf P (frzOf G a) as with
   | none=>rw[ih2 h2];exact⟨fun ts G' h=>by simp at h,fun _=>rfl⟩
   | some q=>
    obtain⟨ts1,G1⟩:=q;obtain⟨q1,q2⟩:=ih1 ts1 G1 h2;rw[q2];refine⟨fun ts G' h=> ?_,fun h=>by simp at h⟩;simp only[Option.some.injEq,Prod.mk.injEq]at h;obtain⟨rfl,rfl⟩:=h;exact⟨q1,rfl⟩
theorem store_eff {oi:Oper} {p:Tmp} (hl:lateO oi p=true) {id off:Nat} (hp:s p=.ptr id off) {v:AV} (h:Eff P ops oi s G v G'):∃t0 cs cs',G id=some (.var t0 cs)∧G'=G.upd id (.var t0 cs')∧∀G3,Fin G3→G3 id=some (.var t0 cs)→Eff P ops oi s G3 v (G3.upd id (.var t0 cs')):=by
 unfold lateO at hl;split at hl
 ·rename_i t q x hop hgd;simp only[beq_iff_eq]at hl;subst hl;cases h with
  | off hw=>simp[wantA,hgd]at hw
  | pure hw hm hp'=>simp[mustPure,hop]at hm
  | call hw hc=>simp[callA,hop]at hc
  | keep hw hc=>simp[callA,hop]at hc
  | inl hw hc=>simp[callA,hop]at hc
  | @op _ _ nx nx' hw hm hn he=>
   have hev:∀G3 nx3,evC P s G3 nx3 oi=(evStore P G3 t (s q) (evX s x)).map fun G'=>(.any,G',nx3):=by
    intro G3 nx3;unfold evC;rw[hop];rfl
   rw[hev]at he;obtain⟨G1,h1,h2⟩:=Option.map_eq_some_iff.1 he;simp only[Prod.mk.injEq]at h2;obtain⟨rfl,rfl,rfl⟩:=h2;unfold evStore at h1;rw[hp]at h1;split at h1
   ·cases h1
   ·rename_i b k hty;split at h1
    ·rename_i hk;simp only at h1;split at h1
     ·rename_i t0 cs hG;split at h1
      ·rename_i hle;injection h1 with h1;refine⟨t0,cs,_,hG,h1.symm,fun G3 ⟨n,hf⟩ hG3=> .op (nx:=n) (nx':=n) hw hm (hf n (Nat.le_refl _)) ?_⟩;rw[hev];unfold evStore;rw[hp,hty];simp only[if_pos hk,hG3,if_pos hle,Option.map_some]
      ·cases h1
     ·cases h1
    ·cases h1
 ·cases hl
theorem addJ_upd {nx id:Nat} {J:Js} {o:AObj} (h:¬(nx≤id∧id-nx<J.length)):addJ (G.upd id o) nx J=(addJ G nx J).upd id o:=by
 funext i;simp only[addJ,Hp.upd];by_cases hi:i=id
 ·subst hi;rw[if_neg h,if_pos rfl,if_pos rfl]
 ·rw[if_neg hi,if_neg hi]
theorem may_eff {oj:Oper} {qs:List Tmp} (hr:regP ops=false) (hm:mayO qs oj=true) {id:Nat} {t0:TypeId} {cs cs':List AV} (hG:∃o,G id=some o) (hq:∀q∈qs,rootA (s q)≠some id) (hf:Fin G) {u:AV} (h:Eff P ops oj s G u G1) (h1:G1 id=some (.var t0 cs)):
  G id=some (.var t0 cs)∧Eff P ops oj s (G.upd id (.var t0 cs')) u (G1.upd id (.var t0 cs')):=by
 have mp:mustPure ops oj=false:=(by simp[mustPure,hr]);unfold mayO at hm;split at hm
 ·cases hm
 rename_i hgd;have hfu:∀ {G:Hp} {o:AObj},Fin G→Fin (G.upd id o):=fun⟨n,hf⟩=>⟨n+id+1,fun i hi=>by rw[Hp.upd_ne _ _ (by omega)];exact hf i (by omega)⟩;split at hm
 ·rename_i t q hop;have hc:clsR ops oj=1:=(by rw[clsR_of mp];simp[clsOf,hop]);obtain⟨rfl,h2⟩:=h.read hc;refine⟨h1,h2 _ (hfu hf) fun x hx i o hri hi=> ?_⟩;have hx:x=.tmp q:=(by simpa [Op.operands,hop]using hx);subst hx;have hne:i≠id:=fun e=>hq q (List.contains_iff_mem.1 (by simpa using hm)) (by rw[←e];exact hri);rw[Hp.upd_ne _ _ hne,hi];exact .inl rfl
 ·rename_i t n ps hop;cases h with
  | off hw=>simp[wantA,hgd]at hw
  | pure hw hm hp'=>rw[mp]at hm;cases hm
  | call hw hc=>simp[callA,hop]at hc
  | keep hw hc=>simp[callA,hop]at hc
  | inl hw hc=>simp[callA,hop]at hc
  | @op _ _ nx nx' hw hm hn he=>
   have hne:id≠nx:=fun e=>(by obtain⟨o,hG⟩:=hG;rw[e,hn]at hG;cases hG);have hev:∀G3,evC P s G3 nx oj=evOp P s G3 nx (.buildSlice t n ps):=fun G3=>(by unfold evC;rw[hop]);rw[hev]at he;have hn':(G.upd id (.var t0 cs')) nx=none:=(by rw[Hp.upd_ne _ _ (Ne.symm hne)];exact hn);have hG1:∀ {G2:Hp} {o:AObj},G1=G2.upd nx o→G2 id=some (.var t0 cs):=fun e=>(by rw[e,Hp.upd_ne _ _ hne]at h1;exact h1);simp only[evOp]at he;split at he
   ·rename_i e k by' z hel;split at he
    ·rename_i hcond;split at he
     ·rename_i ts G2 htr;simp only[Option.some.injEq,Prod.mk.injEq]at he;obtain⟨rfl,rfl,rfl⟩:=he;have h2:=hG1 rfl;have hGid:G id=some (.var t0 cs):=by
       obtain⟨o,hG⟩:=hG;rcases Grows.trees htr id o hG with h3 | ⟨e',c',rfl,h3⟩
       ·rw[h3]at h2;rw[hG,h2]
       ·rw[h3]at h2;cases h2
      refine⟨hGid,.op (nx:=nx) (nx':=nx+1) hw mp hn' ?_⟩;rw[hev];simp only[evOp,hel,if_pos hcond,((treesOf_upd _ hGid).1 ts G2 htr).2];rw[Hp.upd_swap _ _ _ hne]
     ·rename_i htr;split at he
      ·rename_i hfn;simp only[Option.some.injEq,Prod.mk.injEq]at he;obtain⟨rfl,rfl,rfl⟩:=he;have hGid:=hG1 rfl;refine⟨hGid,.op (nx:=nx) (nx':=nx+1) hw mp hn' ?_⟩;rw[hev];simp only[evOp,hel,if_pos hcond,(treesOf_upd (cs':=cs') _ hGid).2 htr,if_pos hfn];rw[Hp.upd_swap _ _ _ hne]
      ·cases he
    ·cases he
   ·cases he
 ·rename_i c hop;split at hm
  ·rename_i f hcal;have hargs:c.args.toList=[]:=by
    have:c.args.size=0:=(by simpa using hm);exact List.eq_nil_of_length_eq_zero (by simpa using this)
   have has:∀ {f' as},callA s oj=some (f',as)→as=[]:=fun hc=>by
    simp only[callA,hop,hcal,hargs,List.map_nil,Option.some.injEq,Prod.mk.injEq]at hc;exact hc.2.symm
   cases h with
   | off hw=>simp[wantA,hgd]at hw
   | pure hw hm hp'=>rw[mp]at hm;cases hm
   | op hw hm hn he=>
    unfold evC at he;rw[hop]at he;simp only[hcal]at he;cases he
   | @call G' f as ts r J nx hw hc ha hn hk=>
    have:=has hc;subst this;simp only[argsOf,Option.some.injEq,Prod.mk.injEq]at ha;obtain⟨rfl,rfl⟩:=ha;have hni:¬(nx≤id∧id-nx<J.length):=fun hj=>(by obtain⟨o,hG⟩:=hG;rw[hn id hj]at hG;cases hG);have hGid:G id=some (.var t0 cs):=by
     have:addJ G nx J id=G id:=(by simp only[addJ];rw[if_neg hni]);rw[←this];exact h1
    refine⟨hGid,?_⟩;rw[←addJ_upd hni];exact .call hw hc rfl (fun j hj=>by
     have hji:j≠id:=fun e=>hni (by rw[←e];exact hj);rw[Hp.upd_ne _ _ hji];exact hn j hj) hk
   | @keep f as ts r J nx hw hc ha hn hk hkeep=>
    have:=has hc;subst this;simp only[seesA,Option.some.injEq]at ha;subst ha;have hni:¬(nx≤id∧id-nx<J.length):=fun hj=>(by obtain⟨o,hG⟩:=hG;rw[hn id hj]at hG;cases hG);have hGid:G id=some (.var t0 cs):=by
     have:addJ G nx J id=G id:=(by simp only[addJ];rw[if_neg hni]);rw[←this];exact h1
    refine⟨hGid,?_⟩;rw[←addJ_upd hni];exact .keep hw hc rfl (fun j hj=>by
     have hji:j≠id:=fun e=>hni (by rw[←e];exact hj);rw[Hp.upd_ne _ _ hji];exact hn j hj) hk hkeep
   | inl hw hc hne=>exact absurd (has hc) hne.1
  ·cases hm
 ·cases hm
theorem swapL {i j:Nat} {oi oj:Oper} {p:Tmp} {qs:List Tmp} (hr:regP ops=false) (hi:ops[i]? =some oi) (hj:ops[j]? =some oj) (hap:oj.apart ops oi=true) (hl:lateO oi p=true) (hm:mayO qs oj=true) (hS:LateS s (some p) qs) (hf:Fin G) (hK:∀x∈oi.op.operands,∀id,rootA (evX s x)=some id→∃o,G id=some o)
  (h1:Step P N ops j s G s1 G1) (h2:Step P N ops i s1 G1 s2 G2):∃s1' G1',Step P N ops i s G s1' G1'∧Step P N ops j s1' G1' s2 G2:=by
 obtain⟨a1,a2,a3⟩:=Oper.apart_spec hap;obtain⟨hd1,u,rfl,e1⟩:=(step_iff hj).1 h1;obtain⟨hd2,v,rfl,e2⟩:=(step_iff hi).1 h2;have si:Same ops oi s (s.put oj.dst u):=looks_same a1;have si':Same ops oi (s.put oj.dst u) s:=⟨fun x hx=>(si.1 x hx).symm,si.2.symm⟩;have sj:Same ops oj s (s.put oi.dst v):=looks_same a3;have e2':=e2.congr si';obtain⟨id,off,hp,hq⟩:=hS p rfl;obtain⟨t0,cs,cs',g1,g2,g3⟩:=store_eff hl hp e2';have hpo:(.tmp p:Operand)∈oi.op.operands:=by
  unfold lateO at hl;split at hl
  ·rename_i t q x hop hgd;simp only[beq_iff_eq]at hl;subst hl;simp[Op.operands,hop]
  ·cases hl
 obtain⟨hGid,x2⟩:=may_eff (cs':=cs') hr hm (hK _ hpo id (by show rootA (s p)=_;rw[hp];rfl)) hq hf e1 g1;subst g2;exact⟨_,_,(step_iff hi).2 ⟨hd2,v,rfl,g3 G hf hGid⟩,(step_iff hj).2 ⟨hd1,u,put_comm a2,x2.congr sj⟩⟩
theorem treesOf_new {a:Nat} {o:AObj} :∀(as:List AV) {G:Hp} {ts:List AV} {G':Hp},G a=none→treesOf P G as=some (ts,G')→G' a=none∧treesOf P (G.upd a o) as=some (ts,G'.upd a o)
 | [],G,ts,G',hG,h=>by simp[treesOf]at h⊢;obtain⟨rfl,rfl⟩:=h;exact⟨hG,rfl,rfl⟩
 | x::as,G,ts,G',hG,h=>by
  simp only[treesOf]at h;cases h1:treeOf P G x with
  | none=>rw[h1]at h;cases h
  | some y=>
   rw[h1]at h;have t1:treeOf P (G.upd a o) x=some y:=by
    (cases x<;>try exact h1);rename_i r n;by_cases hr:r=a
    ·subst hr;simp only[treeOf,hG]at h1;cases h1
    ·rw[←h1];simp only[treeOf,Hp.upd_ne _ _ hr]
   have t2:frzOf (G.upd a o) x=(frzOf G x).upd a o∧(frzOf G x) a=none:=by
    (cases x<;>try exact⟨rfl,hG⟩);rename_i r n;by_cases hr:r=a
    ·subst hr;simp only[treeOf,hG]at h1;cases h1
    ·simp only[frzOf,Hp.upd_ne _ _ hr];have hri:a≠r:=fun e=>hr e.symm;cases hGr:G r with
     | none=>exact⟨rfl,hG⟩
     | some o'=>
      (cases o'<;>try exact⟨rfl,hG⟩);rename_i e c;cases c with
      | nil=>exact⟨rfl,hG⟩
      | cons c cs=>exact⟨Hp.upd_swap _ _ _ hri,by show G.upd r _ a=_;rw[Hp.upd_ne _ _ hri];exact hG⟩
   cases h2:treesOf P (frzOf G x) as with
   | none=>rw[h2]at h;cases h
   | some q=>
    obtain⟨ts1,G1⟩:=q;rw[h2]at h;simp only[Option.some.injEq,Prod.mk.injEq]at h;obtain⟨rfl,rfl⟩:=h;obtain⟨q1,q2⟩:=treesOf_new (o:=o) as t2.2 h2;exact⟨q1,by simp only[treesOf,t1,t2.1,q2]⟩
theorem argsOf_new {a:Nat} {o:AObj} :∀(as:List AV) {G:Hp} {ts:List AV} {G':Hp},G a=none→argsOf P G as=some (ts,G')→G' a=none∧argsOf P (G.upd a o) as=some (ts,G'.upd a o)
 | [],G,ts,G',hG,h=>by simp[argsOf]at h⊢;obtain⟨rfl,rfl⟩:=h;exact⟨hG,rfl,rfl⟩
 | x::as,G,ts,G',hG,h=>by
  have one:∀ {x:AV},(∀cs,x≠ .agg cs)→argsOf P G (x::as)=some (ts,G')→G' a=none∧argsOf P (G.upd a o) (x::as)=some (ts,G'.upd a o):=by
   intro x hx h;have e:∀G:Hp,argsOf P G (x::as)=match treeOf P G x,argsOf P (frzOf G x) as with
    | some t,some (rs,G2)=>some (t::rs,G2)
    | _,_=>none:=fun G=>by
     cases x<;>first | rfl | exact absurd rfl (hx _)
   rw[e]at h⊢;cases h1:treeOf P G x with
   | none=>rw[h1]at h;cases h
   | some y=>
    rw[h1]at h;obtain⟨q0,q1⟩:=treesOf_new (P:=P) (o:=o) [x] (ts:=[y]) (G':=frzOf G x) hG (by simp only[treesOf,h1]);have t1:treeOf P (G.upd a o) x=some y∧frzOf (G.upd a o) x=(frzOf G x).upd a o:=by
     simp only[treesOf]at q1;cases h3:treeOf P (G.upd a o) x with
     | none=>rw[h3]at q1;cases q1
     | some z=>
      rw[h3]at q1;simp only[Option.some.injEq,Prod.mk.injEq,List.cons.injEq,and_true]at q1;exact⟨by rw[q1.1],q1.2⟩
    cases h2:argsOf P (frzOf G x) as with
    | none=>rw[h2]at h;cases h
    | some q=>
     obtain⟨ts1,G1⟩:=q;rw[h2]at h;simp only[Option.some.injEq,Prod.mk.injEq]at h;obtain⟨rfl,rfl⟩:=h;obtain⟨r1,r2⟩:=argsOf_new (o:=o) as q0 h2;exact⟨r1,by rw[t1.1,t1.2,r2]⟩
  cases x with
  | agg cs=>
   simp only[argsOf]at h⊢;cases h1:treesOf P G cs with
   | none=>rw[h1]at h;cases h
   | some q=>
    obtain⟨t1,G1⟩:=q;rw[h1]at h;obtain⟨q0,q1⟩:=treesOf_new (o:=o) cs hG h1;rw[q1];simp only at h⊢;cases h2:argsOf P G1 as with
    | none=>rw[h2]at h;cases h
    | some q=>
     obtain⟨ts1,G2⟩:=q;rw[h2]at h;simp only[Option.some.injEq,Prod.mk.injEq]at h;obtain⟨rfl,rfl⟩:=h;obtain⟨r1,r2⟩:=argsOf_new (o:=o) as q0 h2;exact⟨r1,by rw[r2]⟩
  | _=>exact one (fun cs=>by simp) h
theorem lookA_new {a:Nat} {o:AObj} {x y:AV} (hG:G a=none) (h:lookA P G x=some y):lookA P (G.upd a o) x=some y:=by
 cases x<;>try exact h
 ·rename_i id off;by_cases hr:id=a
  ·subst hr;simp only[lookA,hG]at h;cases h
  ·simp only[lookA,Hp.upd_ne _ _ hr]at h⊢;exact h
 ·rename_i r n;by_cases hr:r=a
  ·subst hr;simp only[lookA,treeOf,hG]at h;cases h
  ·simp only[lookA,treeOf,Hp.upd_ne _ _ hr]at h⊢;exact h
theorem looksA_new {a:Nat} {o:AObj} (hG:G a=none):∀ {as ts:List AV},looksA P G as=some ts→looksA P (G.upd a o) as=some ts
 | [],ts,h=>h
 | x::as,ts,h=>by
  simp only[looksA]at h⊢;cases h1:lookA P G x with
  | none=>rw[h1]at h;cases h
  | some y=>
   cases h2:looksA P G as with
   | none=>rw[h1,h2]at h;cases h
   | some q=>rw[h1,h2]at h;rw[lookA_new hG h1,looksA_new hG h2];exact h
theorem seesA_new {a:Nat} {o:AObj} (hG:G a=none):∀ {as ts:List AV},seesA P G as=some ts→seesA P (G.upd a o) as=some ts
 | [],ts,h=>h
 | x::as,ts,h=>by
  simp only[seesA]at h⊢;cases h1:seeA P G x with
  | none=>rw[h1]at h;cases h
  | some y=>
   have t1:seeA P (G.upd a o) x=some y:=by
    cases x with
    | agg cs=>
     simp only[seeA]at h1⊢;obtain⟨q,hq,rfl⟩:=Option.map_eq_some_iff.1 h1;rw[looksA_new hG hq];rfl
    | fn f cs=>
     simp only[seeA]at h1⊢;obtain⟨q,hq,rfl⟩:=Option.map_eq_some_iff.1 h1;rw[looksA_new hG hq];rfl
    | _=>
     simp only[seeA]at h1⊢;exact lookA_new hG h1
   cases h2:seesA P G as with
   | none=>rw[h1,h2]at h;cases h
   | some q=>rw[h1,h2]at h;rw[t1,seesA_new hG h2];exact h
theorem swapA {i j:Nat} {oi oj:Oper} (hr:regP ops=false) (hi:ops[i]? =some oi) (hj:ops[j]? =some oj) (hap:oj.apart ops oi=true) (hl:allocO oi=true) (hm:callO P oj=true) (hf:Fin G)
  (h1:Step P N ops j s G s1 G1) (h2:Step P N ops i s1 G1 s2 G2):∃s1' G1',Step P N ops i s G s1' G1'∧Step P N ops j s1' G1' s2 G2:=by
 obtain⟨a1,a2,a3⟩:=Oper.apart_spec hap;obtain⟨hd1,u,rfl,e1⟩:=(step_iff hj).1 h1;obtain⟨hd2,v,rfl,e2⟩:=(step_iff hi).1 h2;have si:Same ops oi s (s.put oj.dst u):=looks_same a1;have si':Same ops oi (s.put oj.dst u) s:=⟨fun x hx=>(si.1 x hx).symm,si.2.symm⟩;have sj:Same ops oj s (s.put oi.dst v):=looks_same a3;have e2':=e2.congr si';have mpi:mustPure ops oi=false:=(by simp[mustPure,hr]);have mpj:mustPure ops oj=false:=(by simp[mustPure,hr]);unfold allocO at hl;split at hl
 ·rename_i t hop hgd;have hev:∀G3 nx3,evC P s G3 nx3 oi=evOp P s G3 nx3 (.alloc t):=fun G3 nx3=>(by unfold evC;rw[hop]);cases e2' with
  | off hw=>simp[wantA,hgd]at hw
  | pure hw hm hp'=>rw[mpi]at hm;cases hm
  | call hw hc=>simp[callA,hop]at hc
  | keep hw hc=>simp[callA,hop]at hc
  | inl hw hc=>simp[callA,hop]at hc
  | @op _ _ a nx' hw hmm hn he=>
   rw[hev]at he;simp only[evOp]at he;split at he
   ·rename_i z hz;simp only[Option.some.injEq,Prod.mk.injEq]at he;obtain⟨rfl,rfl,rfl⟩:=he;have x1:∀ {G:Hp},G a=none→Eff P ops oi s G (.ptr a 0) (G.upd a (.var t (z.map .v))):=fun {G} hG=> .op (nx:=a) (nx':=a+1) hw hmm hG (by rw[hev];simp only[evOp,hz]);unfold callO at hm;split at hm
    ·rename_i c hopj;split at hm
     ·rename_i f hcal;have hfn:∀ {f' as},callA s oj=some (f',as)→f'=f:=fun hc=>by
       simp only[callA,hopj,hcal,Option.some.injEq,Prod.mk.injEq]at hc;exact hc.1.symm
      cases e1 with
      | off hw'=>exact⟨_,_,(step_iff hi).2 ⟨hd2,_,rfl,x1 hn⟩,(step_iff hj).2 ⟨hd1,_,put_comm a2,(Eff.off hw').congr sj⟩⟩
      | pure hw hm hp'=>rw[mpj]at hm;cases hm
      | op hw hm hn he=>
       unfold evC at he;rw[hopj]at he;simp only[hcal]at he;cases he
      | @call G' f as ts r J nx hw' hc ha hn' hk=>
       have hra:¬(nx≤a∧a-nx<J.length):=fun hj=>by
        have:addJ G' nx J a=ofJ J (a-nx):=(by simp only[addJ];rw[if_pos hj]);rw[hn]at this;simp[ofJ,hj.2]at this
       have hGa':G' a=none:=by
        have:addJ G' nx J a=G' a:=(by simp only[addJ];rw[if_neg hra]);rw[←this];exact hn
       have hGa:G a=none:=by
        cases hx:G a with
        | none=>rfl
        | some o=>
         rcases Grows.args ha a o hx with h3 | ⟨_,_,_,h3⟩
         ·rw[h3]at hGa';cases hGa'
         ·rw[h3]at hGa';cases hGa'
       obtain⟨_,q2⟩:=argsOf_new (o:=.var t (z.map .v)) as hGa ha;refine⟨_,_,(step_iff hi).2 ⟨hd2,_,rfl,x1 hGa⟩,(step_iff hj).2 ⟨hd1,_,put_comm a2,Eff.congr sj ?_⟩⟩;rw[←addJ_upd hra];exact .call hw' hc q2 (fun j hj=>by
        have:j≠a:=fun e=>hra (by rw[←e];exact hj);rw[Hp.upd_ne _ _ this];exact hn' j hj) hk
      | @keep f as ts r J nx hw' hc ha hn' hk hkeep=>
       have hra:¬(nx≤a∧a-nx<J.length):=fun hj=>by
        have:addJ G nx J a=ofJ J (a-nx):=(by simp only[addJ];rw[if_pos hj]);rw[hn]at this;simp[ofJ,hj.2]at this
       have hGa:G a=none:=by
        have:addJ G nx J a=G a:=(by simp only[addJ];rw[if_neg hra]);rw[←this];exact hn
       refine⟨_,_,(step_iff hi).2 ⟨hd2,_,rfl,x1 hGa⟩,(step_iff hj).2 ⟨hd1,_,put_comm a2,Eff.congr sj ?_⟩⟩;rw[←addJ_upd hra];exact .keep hw' hc (seesA_new hGa ha) (fun j hj=>by
        have:j≠a:=fun e=>hra (by rw[←e];exact hj);rw[Hp.upd_ne _ _ this];exact hn' j hj) hk hkeep
      | inl hw' hc hne=>
       have:=hfn hc;subst this;rw[hne.2]at hm;cases hm
     ·cases hm
    ·cases hm
   ·cases he
 ·cases hl
def frzO:Option AObj→Option AObj
 | some (.row e (c::cs))=>some (.frz e (c::cs))
 | o=>o
def hitsA (c:AV) (i:Nat):Bool:=match c with
 | .row id _=>i==id
 | _=>false
theorem frz_at {G:Hp} {c:AV} {i:Nat} :frzOf G c i=if hitsA c i=true then frzO (G i)else G i:=by
 cases c with
 | row id n=>
  by_cases h:i=id
  ·subst h;simp only[hitsA,beq_self_eq_true,if_true];simp only[frzOf];cases hG:G i with
   | none=>simp only[frzO,hG]
   | some o=>
    cases o with
    | row e cs=>
     cases cs with
     | nil=>simp only[frzO,hG]
     | cons x cs=>simp only[frzO,Hp.upd_self]
    | _=>simp only[frzO,hG]
  ·have:hitsA (.row id n) i=false:=(by simp[hitsA,h]);rw[this];simp only[frzOf];cases hG:G id with
   | none=>rfl
   | some o=>
    cases o with
    | row e cs=>
     cases cs with
     | nil=>rfl
     | cons x cs=>exact Hp.upd_ne _ _ h
    | _=>rfl
 | _=>rfl
theorem frz_get {G:Hp} {c:AV} {i:Nat} :frzOf G c i=G i∨∃n e a cs,c=.row i n∧G i=some (.row e (a::cs))∧frzOf G c i=some (.frz e (a::cs)):=by
 rw[frz_at];cases c with
 | row id n=>
  by_cases h:i=id
  ·subst h;simp only[hitsA,beq_self_eq_true,if_true];cases hG:G i with
   | none=>exact .inl rfl
   | some o=>
    cases o with
    | row e cs=>
     cases cs with
     | nil=>exact .inl rfl
     | cons x cs=>exact .inr ⟨n,e,x,cs,rfl,rfl,rfl⟩
    | _=>exact .inl rfl
  ·have:hitsA (.row id n) i=false:=(by simp[hitsA,h]);rw[this];exact .inl rfl
 | _=>exact .inl rfl
theorem frz_tree {G:Hp} {a c:AV} :treeOf P (frzOf G a) c=treeOf P G c:=by
 cases c with
 | row id n=>
  rcases frz_get (G:=G) (c:=a) (i:=id)with h | ⟨_,e,x,cs,_,h1,h2⟩
  ·simp only[treeOf,h]
  ·simp only[treeOf,h1,h2]
 | _=>rfl
theorem frz_comm {G:Hp} {a c:AV} :frzOf (frzOf G a) c=frzOf (frzOf G c) a:=by
 funext i;rw[frz_at,frz_at,frz_at,frz_at];cases hitsA a i<;>cases hitsA c i<;>rfl
theorem frzs_comm1 {c:AV} :∀(as:List AV) {G:Hp},frzOf (as.foldl frzOf G) c=as.foldl frzOf (frzOf G c)
 | [],G=>rfl
 | a::as,G=>by
  rw[List.foldl_cons,List.foldl_cons,frzs_comm1 as,frz_comm]
theorem frzs_comm:∀(as cs:List AV) {G:Hp},as.foldl frzOf (cs.foldl frzOf G)=cs.foldl frzOf (as.foldl frzOf G)
 | [],cs,G=>rfl
 | a::as,cs,G=>by
  rw[List.foldl_cons,List.foldl_cons,frzs_comm1 cs,frzs_comm as cs]
theorem frzs_tree {c:AV} :∀(as:List AV) {G:Hp},treeOf P (as.foldl frzOf G) c=treeOf P G c
 | [],G=>rfl
 | a::as,G=>by rw[List.foldl_cons,frzs_tree as,frz_tree]
theorem frzs_none {i:Nat} :∀(as:List AV) {G:Hp},as.foldl frzOf G i=none↔G i=none
 | [],G=>Iff.rfl
 | a::as,G=>by
  rw[List.foldl_cons,frzs_none as];rcases frz_get (G:=G) (c:=a) (i:=i)with h | ⟨_,_,_,_,_,h1,h2⟩
  ·rw[h]
  ·rw[h1,h2];simp
theorem frz_upd {G:Hp} {b:Nat} {o:AObj} {c:AV} (h:∀n,c≠ .row b n):frzOf (G.upd b o) c=(frzOf G c).upd b o:=by
 funext i;by_cases hb:i=b
 ·subst hb;have:hitsA c i=false:=by
   cases c with
   | row id n=>
    have:¬i=id:=fun e=>h n (by rw[e]);simp[hitsA,this]
   | _=>rfl
  rw[frz_at,this,Hp.upd_self,Hp.upd_self];rfl
 ·rw[frz_at,Hp.upd_ne _ _ hb,Hp.upd_ne _ _ hb,frz_at]
theorem frzs_upd {b:Nat} {o:AObj} :∀(as:List AV) {G:Hp},(∀c∈as,∀n,c≠ .row b n)→as.foldl frzOf (G.upd b o)=(as.foldl frzOf G).upd b o
 | [],G,_=>rfl
 | a::as,G,h=>by
  rw[List.foldl_cons,List.foldl_cons,frz_upd (h a (by simp)),frzs_upd as fun c hc=>h c (by simp[hc])]
theorem tree_upd {G:Hp} {b:Nat} {o:AObj} {c:AV} (h:∀n,c≠ .row b n):treeOf P (G.upd b o) c=treeOf P G c:=by
 cases c with
 | row id n=>
  have hb:¬id=b:=fun e=>h n (by rw[e]);simp only[treeOf];rw[Hp.upd_ne _ _ hb]
 | _=>rfl
theorem treesOf_fold:∀(as:List AV) {G:Hp},treesOf P G as=(as.mapM (treeOf P G)).map fun ts=>(ts,as.foldl frzOf G)
 | [],G=>rfl
 | a::as,G=>by
  have e:as.mapM (treeOf P (frzOf G a))=as.mapM (treeOf P G):=by
   congr 1;funext c;exact frz_tree
  simp only[treesOf,treesOf_fold as,e,List.mapM_cons,List.foldl_cons];cases treeOf P G a with
  | none=>rfl
  | some t=>cases as.mapM (treeOf P G)<;>rfl
theorem mapM_some {α β:Type} {f:α→Option β} :∀ {l:List α} {r:List β},l.mapM f=some r→∀c∈l,∃y,f c=some y
 | [],r,_,c,hc=>by cases hc
 | a::l,r,h,c,hc=>by
  rw[List.mapM_cons]at h;cases ha:f a with
  | none=>rw[ha]at h;cases h
  | some y=>
   rw[ha]at h;cases hl:l.mapM f with
   | none=>rw[hl]at h;cases h
   | some ys=>
    rcases List.mem_cons.1 hc with rfl | hc
    ·exact⟨y,ha⟩
    ·exact mapM_some hl c hc
theorem mapM_fn {G:Hp} :∀ {l:List AV},l.any isFn=true→l.mapM (treeOf P G)=none
 | [],h=>by cases h
 | a::l,h=>by
  rw[List.mapM_cons];rw[List.any_cons,Bool.or_eq_true]at h;rcases h with h | h
  ·have:treeOf P G a=none:=by
    cases a<;>first | (simp[isFn]at h;done) | rfl
   rw[this];rfl
  ·rw[mapM_fn h];cases treeOf P G a<;>rfl
theorem make_spec {o:Oper} (hm:makeO o=true) {G G':Hp} {a nx':Nat} {v:AV} (he:evC P s G a o=some (v,G',nx')):∃(cs:List AV) (obj:AObj) (val:Nat→AV),v=val a∧G'=(cs.foldl frzOf G).upd a obj∧
  (∀c∈cs,∃x∈o.op.operands,c∈(evX s x).cells)∧(∀c∈cs,∃y,treeOf P G c=some y)∧∀G2 b,(∀c∈cs,treeOf P G2 c=treeOf P G c)→evC P s G2 b o=some (val b,(cs.foldl frzOf G2).upd b obj,b+1):=by
 unfold makeO at hm;split at hm
 ·rename_i t hop hgd;have hev:∀G3 nx3,evC P s G3 nx3 o=evOp P s G3 nx3 (.alloc t):=fun G3 nx3=>(by unfold evC;rw[hop]);rw[hev]at he;simp only[evOp]at he;split at he
  ·rename_i z hz;simp only[Option.some.injEq,Prod.mk.injEq]at he;obtain⟨rfl,rfl,rfl⟩:=he;exact⟨[],_,fun b=> .ptr b 0,rfl,rfl,by simp,by simp,fun G2 b _=>by rw[hev];simp only[evOp,hz];rfl⟩
  ·cases he
 ·rename_i t n ps hop hgd;have hev:∀G3 nx3,evC P s G3 nx3 o=evOp P s G3 nx3 (.buildSlice t n ps):=fun G3 nx3=>(by unfold evC;rw[hop]);rw[hev]at he;simp only[evOp]at he;split at he
  ·rename_i e k q r hel;split at he
   ·rename_i hc;generalize hcs:(ps.toList.flatMap fun p=>(evX s p.2).cells)=cs at he;split at he
    ·rename_i ts G1 ht;simp only[Option.some.injEq,Prod.mk.injEq]at he;obtain⟨rfl,rfl,rfl⟩:=he;rw[treesOf_fold]at ht;obtain⟨ts',hts,ht2⟩:=Option.map_eq_some_iff.1 ht;simp only[Prod.mk.injEq]at ht2;obtain⟨rfl,rfl⟩:=ht2;refine⟨cs,_,fun b=> .row b n,rfl,rfl,fun c hcm=> ?_,mapM_some hts,fun G2 b hG2=> ?_⟩
     ·rw[←hcs]at hcm;obtain⟨p,hp,hcp⟩:=List.mem_flatMap.1 hcm;refine⟨p.2,?_,hcp⟩;rw[hop];simp only[Op.operands];exact List.mem_toArray.2 (List.mem_map_of_mem (f:=fun x:Nat×Operand=>x.2) hp)
     ·rw[hev];simp only[evOp,hel];rw[if_pos hc,hcs,treesOf_fold];have:cs.mapM (treeOf P G2)=cs.mapM (treeOf P G):=by
       clear hcs ht hts;induction cs with
       | nil=>rfl
       | cons c cs ih=>rw[List.mapM_cons,List.mapM_cons,hG2 c (by simp),ih fun c hc=>hG2 c (by simp[hc])]
      rw[this,hts];rfl
    ·rename_i ht;split at he
     ·rename_i hf;simp only[Option.some.injEq,Prod.mk.injEq]at he;obtain⟨rfl,rfl,rfl⟩:=he;refine⟨[],_,fun b=> .row b n,rfl,rfl,by simp,by simp,fun G2 b _=> ?_⟩;rw[hev];simp only[evOp,hel];rw[if_pos hc,hcs,treesOf_fold,mapM_fn hf.1];simp only[Option.map_none];rw[if_pos hf];rfl
     ·cases he
   ·cases he
  ·cases he
 ·cases hm
theorem swapM {i j:Nat} {oi oj:Oper} (hr:regP ops=false) (hi:ops[i]? =some oi) (hj:ops[j]? =some oj) (hap:oj.apart ops oi=true) (hl:makeO oi=true) (hm:makeO oj=true) (hK:∀x∈oi.op.operands,∀c∈(evX s x).cells,∀id n,c=.row id n→∃o,G id=some o)
  (h1:Step P N ops j s G s1 G1) (h2:Step P N ops i s1 G1 s2 G2):∃s1' G1',Step P N ops i s G s1' G1'∧Step P N ops j s1' G1' s2 G2:=by
 obtain⟨a1,a2,a3⟩:=Oper.apart_spec hap;obtain⟨hd1,u,rfl,e1⟩:=(step_iff hj).1 h1;obtain⟨hd2,v,rfl,e2⟩:=(step_iff hi).1 h2;have si:Same ops oi s (s.put oj.dst u):=looks_same a1;have si':Same ops oi (s.put oj.dst u) s:=⟨fun x hx=>(si.1 x hx).symm,si.2.symm⟩;have sj:Same ops oj s (s.put oi.dst v):=looks_same a3;have e2':=e2.congr si';have noG:∀ {o:Oper},makeO o=true→o.guard=none∧callA s o=none:=fun {o} h=>by
  unfold makeO at h;split at h
  ·rename_i hop hg;exact⟨hg,by simp[callA,hop]⟩
  ·rename_i hop hg;exact⟨hg,by simp[callA,hop]⟩
  ·cases h
 obtain⟨gi,ci⟩:=noG hl;obtain⟨gj,cj⟩:=noG hm;have mpi:mustPure ops oi=false:=(by simp[mustPure,hr]);have mpj:mustPure ops oj=false:=(by simp[mustPure,hr]);cases e1 with
 | off hw=>simp[wantA,gj]at hw
 | pure hw hm' _=>rw[mpj]at hm';cases hm'
 | call hw hc=>rw[cj]at hc;cases hc
 | keep hw hc=>rw[cj]at hc;cases hc
 | inl hw hc=>rw[cj]at hc;cases hc
 | @op _ _ b nb hwj hmj hnb hej=>
 cases e2' with
 | off hw=>simp[wantA,gi]at hw
 | pure hw hm' _=>rw[mpi]at hm';cases hm'
 | call hw hc=>rw[ci]at hc;cases hc
 | keep hw hc=>rw[ci]at hc;cases hc
 | inl hw hc=>rw[ci]at hc;cases hc
 | @op _ _ a na hwi hmi hna hei=>
 obtain⟨cs,ob,vb,rfl,rfl,hcs,hct,hcr⟩:=make_spec hm hej;obtain⟨ds,oa,va,rfl,rfl,hds,hdt,hdr⟩:=make_spec hl hei;have hab:¬a=b:=fun e=>(by subst e;rw[Hp.upd_self]at hna;cases hna);have hGa:G a=none:=by
  rw[Hp.upd_ne _ _ hab]at hna;exact(frzs_none cs).1 hna
 have dne:∀c∈ds,∀n,c≠ .row b n:=fun c hc n e=>by
  obtain⟨x,hx,hcx⟩:=hds c hc;obtain⟨o,ho⟩:=hK x hx c hcx b n e;rw[hnb]at ho;cases ho
 have cne:∀c∈cs,∀n,c≠ .row a n:=fun c hc n e=>by
  obtain⟨y,hy⟩:=hct c hc;subst e;simp[treeOf,hGa]at hy
 have x1:evC P s G a oi=some (va a,(ds.foldl frzOf G).upd a oa,a+1):=hdr G a fun c hc=>(by rw[tree_upd (dne c hc),frzs_tree]);have x2:evC P s ((ds.foldl frzOf G).upd a oa) b oj=some (vb b,(cs.foldl frzOf ((ds.foldl frzOf G).upd a oa)).upd b ob,b+1):=hcr _ b fun c hc=>(by rw[tree_upd (cne c hc),frzs_tree]);have hb2:((ds.foldl frzOf G).upd a oa) b=none:=by
  rw[Hp.upd_ne _ _ (fun e=>hab e.symm)];exact(frzs_none ds).2 hnb
 refine⟨_,_,(step_iff hi).2 ⟨hd2,_,rfl,.op hwi hmi hGa x1⟩,(step_iff hj).2 ⟨hd1,_,put_comm a2,Eff.congr sj ?_⟩⟩;have hG2:(ds.foldl frzOf ((cs.foldl frzOf G).upd b ob)).upd a oa=(cs.foldl frzOf ((ds.foldl frzOf G).upd a oa)).upd b ob:=by
  rw[frzs_upd ds dne,frzs_upd cs cne,frzs_comm ds cs,Hp.upd_swap _ _ _ (fun e=>hab e.symm)]
 rw[hG2];exact .op hwj hmj hb2 x2
theorem RelAt.rootsC (h:RelAt P N E1 w1 s G a w E) (x:Operand) (c:AV) (hc:c∈(evX s x).cells) (id n:Nat) (he:c=.row id n):∃o,G id=some o:=by
 subst he;refine(h.rel.K id).1 ?_;have hv:=evX_sound h.slots x;generalize evX s x=y at*;cases y with
 | agg cs=>
  obtain⟨us,_,hl,h1,_⟩:=hv.agg_inv;obtain⟨k,hk,he⟩:=List.mem_iff_getElem.1 (show AV.row id n∈cs from hc);exact(h1 k _ (us[k]'(by omega)) (by rw[List.getElem?_eq_getElem hk,he]) (List.getElem?_eq_getElem (by omega))).root rfl
 | row i m=>
  have:AV.row id n=.row i m:=(by simpa [AV.cells]using hc);injection this with e1 e2;subst e1;exact hv.root rfl
 | _=>simp[AV.cells]at hc
theorem call_cls {o:Oper} (hr:regP ops=false) (h:callO P o=true):clsR ops o≤2:=by
 rw[clsR_of (by simp[mustPure,hr])];unfold callO at h;split at h
 ·rename_i hop;split at h
  ·rename_i hc;simp[clsOf,hop,hc]
  ·cases h
 ·cases h
theorem make_cls {o:Oper} (hr:regP ops=false) (h:makeO o=true):clsR ops o≤2:=by
 rw[clsR_of (by simp[mustPure,hr])];unfold makeO at h;split at h
 ·rename_i hop _;simp[clsOf,hop]
 ·rename_i hop _;simp[clsOf,hop]
 ·cases h
theorem make_ne {o:Oper} (hr:regP ops=false) (h:makeO o=true):clsR ops o≠0:=by
 rw[clsR_of (by simp[mustPure,hr])];unfold makeO at h;split at h
 ·rename_i hop _;simp[clsOf,hop]
 ·rename_i hop _;simp[clsOf,hop]
 ·cases h
theorem may_cls {o:Oper} {qs:List Tmp} (hr:regP ops=false) (h:mayO qs o=true):clsR ops o≤2:=by
 rw[clsR_of (by simp[mustPure,hr])];unfold mayO at h;split at h
 ·cases h
 split at h
 ·rename_i hop;simp[clsOf,hop]
 ·rename_i hop;simp[clsOf,hop]
 ·rename_i hop;split at h
  ·rename_i hc;simp[clsOf,hop,hc]
  ·cases h
 ·cases h
theorem late_cls {o:Oper} {p:Tmp} (hr:regP ops=false) (h:lateO o p=true):clsR ops o≠0:=by
 rw[clsR_of (by simp[mustPure,hr])];unfold lateO at h;split at h
 ·rename_i hop _;simp[clsOf,hop]
 ·cases h
theorem frontL {p:Option Tmp} {qs:List Tmp} (hr:regP ops=false) (hfix:fixO ops p=true∧qs.all (fixT ops)=true) {i:Nat} {oi:Oper} (hi:ops[i]? =some oi):∀(pre:List Nat) {post:List Nat} {s:Sl} {G:Hp},Fin G→LateS s p qs→(clsR ops oi=0∨∀x∈oi.op.operands,∀id,rootA (evX s x)=some id→∃o,G id=some o)→(makeO oi=true→∀x∈oi.op.operands,∀c∈(evX s x).cells,∀id n,c=.row id n→∃o,G id=some o)→
  (∀j∈pre,∃oj,ops[j]? =some oj∧oj.apart ops oi=true∧(compat ops oj oi=true∨(∃p',p=some p'∧lateO oi p'=true∧mayO qs oj=true)∨(allocO oi=true∧callO P oj=true)∨(makeO oi=true∧makeO oj=true)))→Runs P N ops (pre++i::post) s G s' G'→Runs P N ops (i::(pre++post)) s G s' G'
 | [],post,s,G,_,_,_,_,_,h=>h
 | j::pre,post,s,G,hf,hS,hK,hC,hp,h=>by
  rw[List.cons_append]at h;cases h with
  | @cons _ _ _ s1 _ _ G1 _ h1 hr'=>
   obtain⟨oj,hj,hap,hc⟩:=hp j (by simp);obtain⟨hd1,u,hs1,e1⟩:=(step_iff hj).1 h1;have hS1:LateS s1 p qs:=by
    subst hs1;exact hS.put (fun p' hp'=>fixT_spec (fixO_spec hfix.1 p' hp') hj) fun q hq=>fixT_spec (List.all_eq_true.1 hfix.2 q hq) hj
   have cj0:clsR ops oi=0∨clsR ops oj≤2:=by
    rcases hc with hc | ⟨_,_,_,hc⟩ | hc | hc
    ·simp only[compat,Bool.or_eq_true,Bool.and_eq_true,beq_iff_eq]at hc;omega
    ·exact .inr (may_cls hr hc)
    ·exact .inr (call_cls hr hc.2)
    ·exact .inr (make_cls hr hc.2)
   have hK1:clsR ops oi=0∨∀x∈oi.op.operands,∀id,rootA (evX s1 x)=some id→∃o,G1 id=some o:=by
    by_cases c0:clsR ops oi=0
    ·exact .inl c0
    ·refine .inr fun x hx id hr'=> ?_;subst hs1;have sm:Same ops oi s (s.put oj.dst u):=looks_same (Oper.apart_spec hap).1;rw[sm.1 x hx]at hr';obtain⟨o,ho⟩:=hK.resolve_left c0 x hx id hr';rcases e1.grows (cj0.resolve_left c0) id o ho with h2 | ⟨_,_,_,h2⟩
     ·exact⟨_,h2⟩
     ·exact⟨_,h2⟩
   have hC1:makeO oi=true→∀x∈oi.op.operands,∀c∈(evX s1 x).cells,∀id n,c=.row id n→∃o,G1 id=some o:=fun hmo x hx c hcx id n he=>by
    subst hs1;have sm:Same ops oi s (s.put oj.dst u):=looks_same (Oper.apart_spec hap).1;rw[sm.1 x hx]at hcx;obtain⟨o,ho⟩:=hC hmo x hx c hcx id n he;rcases e1.grows (cj0.resolve_left (make_ne hr hmo)) id o ho with h2 | ⟨_,_,_,h2⟩
    ·exact⟨_,h2⟩
    ·exact⟨_,h2⟩
   have ih:=frontL hr hfix hi pre (e1.fin hf) hS1 hK1 hC1 (fun j' hj'=>hp j' (by simp[hj'])) hr';cases ih with
   | cons h2 hr2=>
    rcases hc with hc | ⟨p',rfl,hc⟩ | hc | hc
    ·obtain⟨s1',G1',x1,x2⟩:=swap hi hj hap hc hf hK h1 h2;exact .cons x1 (.cons x2 hr2)
    ·have c3:clsR ops oi≠0:=late_cls hr hc.1;obtain⟨s1',G1',x1,x2⟩:=swapL hr hi hj hap hc.1 hc.2 hS hf (hK.resolve_left c3) h1 h2;exact .cons x1 (.cons x2 hr2)
    ·obtain⟨s1',G1',x1,x2⟩:=swapA hr hi hj hap hc.1 hc.2 hf h1 h2;exact .cons x1 (.cons x2 hr2)
    ·obtain⟨s1',G1',x1,x2⟩:=swapM hr hi hj hap hc.1 hc.2 (hC hc.1) h1 h2;exact .cons x1 (.cons x2 hr2)
theorem any_wpL {p:Option Tmp} {qs:List Tmp} {r:Option Nat} {n:Nat} {Q:Exit→Act→World→Prop} (hok:okDrawL P ops p qs=true) (hQ:∀a' w' E',RelAt P N E1 w1 s' G' a' w' E'→Q .normal a' w'):∀(fuel:Nat) (L:Array Bool) {s:Sl} {G:Hp} {a:Act} {w:World} {E:En},LateS s p qs→L.size=ops.size→Closed ops (fun i=>L.getD i false=true)→
  fuel=((List.range ops.size).filter fun i=> !L.getD i true).length→Runs P N ops ((List.range ops.size).filter fun i=> !L.getD i true) s G s' G'→Fin G→RelAt P N E1 w1 s G a w E→wpAnyIn (FW r) n P .any ops Q fuel L a w:=by
 simp only[okDrawL,Bool.and_eq_true,Bool.not_eq_true']at hok;obtain⟨⟨⟨hreg,hfx1⟩,hfx2⟩,hok⟩:=hok;simp only[List.all_eq_true,Bool.and_eq_true,List.mem_range]at hok;intro fuel;induction fuel with
 | zero=>
  intro L s G a w E hS hsz hcl hl hr hf h;have hnil:=List.eq_nil_of_length_eq_zero hl.symm;rw[hnil]at hr;refine⟨?_,?_⟩
  ·rw[List.eq_nil_iff_forall_not_mem];intro j hj;obtain⟨h1,o,ho,_⟩:=mem_ready.1 hj;have:j∈(List.range ops.size).filter fun i=> !L.getD i true:=List.mem_filter.2 ⟨List.mem_range.2 (Array.getElem?_eq_some_iff.1 ho).1,by simp[h1]⟩;rw[hnil]at this;simp at this
  ·cases hr;exact hQ _ _ _ h
 | succ fuel ih=>
  intro L s G a w E hS hsz hcl hl hr hf h;refine⟨fun hnr=> ?_,fun i hir=> ?_⟩
  ·exfalso;cases hR:(List.range ops.size).filter fun i=> !L.getD i true with
   | nil=>rw[hR]at hl;simp at hl
   | cons i R=>
    have hi:i∈(List.range ops.size).filter fun i=> !L.getD i true:=(by rw[hR];simp);obtain⟨hi1,hi2⟩:=List.mem_filter.1 hi;rw[List.mem_range]at hi1;have:i∈Region.ready .any ops L:=by
     refine mem_ready.2 ⟨by simpa using hi2,_,Array.getElem?_eq_getElem hi1,fun e he hb=> ?_⟩;have hbk:=(hok i hi1).1;simp only[backE,Array.getElem?_eq_getElem hi1,List.all_eq_true,Bool.or_eq_true,Bool.not_eq_true',decide_eq_true_eq]at hbk;have hlt:=(hbk e (by simpa using he)).resolve_left (by simp[hb]);have hle:L.getD e.on true=true:=by
      cases hc:L.getD e.on true with
      | true=>rfl
      | false=>
       exfalso;have hmem:e.on∈(List.range ops.size).filter fun i=> !L.getD i true:=List.mem_filter.2 ⟨List.mem_range.2 (by omega),by simp[hc]⟩;have hsort:((List.range ops.size).filter fun i=> !L.getD i true).Pairwise (· < ·):=List.Pairwise.filter _ List.pairwise_lt_range;rw[hR]at hmem hsort;rcases List.mem_cons.1 hmem with h1 | h1
       ·omega
       ·have:=(List.pairwise_cons.1 hsort).1 _ h1;omega
     have hlt2:e.on<L.size:=(by omega);simpa [Array.getD_eq_getD_getElem?,hlt2]using hle
    rw[hnr]at this;simp at this
  ·obtain⟨hi1,oi,hi,hpre⟩:=mem_ready.1 hir;have hin:i<ops.size:=(Array.getElem?_eq_some_iff.1 hi).1;have hmem:i∈(List.range ops.size).filter fun i=> !L.getD i true:=List.mem_filter.2 ⟨List.mem_range.2 hin,by simp[hi1]⟩;obtain⟨pre,post,hR⟩:=List.append_of_mem hmem;have hsort:((List.range ops.size).filter fun i=> !L.getD i true).Pairwise (· < ·):=List.Pairwise.filter _ List.pairwise_lt_range;have hprelt:∀j∈pre,j<i:=fun j hj=>by
    rw[hR]at hsort;exact(List.pairwise_append.1 hsort).2.2 j hj i (by simp)
   rw[hR]at hr;have hfr:=frontL hreg ⟨hfx1,hfx2⟩ hi pre hf hS (.inr fun x _ id hr'=>h.roots x id hr') (fun _ x _ c hc id n he=>h.rootsC x c hc id n he) (fun j hj=>by
    have hjm:j∈(List.range ops.size).filter fun i=> !L.getD i true:=(by rw[hR];simp[hj]);obtain⟨hj1,hj2⟩:=List.mem_filter.1 hjm;rw[List.mem_range]at hj1;refine⟨_,Array.getElem?_eq_getElem hj1,?_⟩;have hp:=(hok i hin).2 j (by simpa using hprelt j hj);simp only[okPair,allocPair,makePair,Bool.or_eq_true,hi,Array.getElem?_eq_getElem hj1,Bool.and_eq_true]at hp;rcases hp with(hp | hp) | hp | hp | hp
    ·exfalso;have:=anc_listed hcl i hi (fun e he hb=>hpre e (by simpa using he) hb) j hp;have hlt2:j<L.size:=(by omega);simp[Array.getD_eq_getD_getElem?,hlt2]at this hj2;rw[this]at hj2;cases hj2
    ·exact⟨hp.1,.inl hp.2⟩
    ·cases p with
     | none=>simp[latePair]at hp
     | some p=>
      simp only[latePair,hi,Array.getElem?_eq_getElem hj1,Bool.and_eq_true]at hp;exact⟨hp.1.1,.inr (.inl ⟨p,rfl,hp.1.2,hp.2⟩)⟩
    ·exact⟨hp.1.1,.inr (.inr (.inl ⟨hp.1.2,hp.2⟩))⟩
    ·exact⟨hp.1.1,.inr (.inr (.inr ⟨hp.1.2,hp.2⟩))⟩) hr
   cases hfr with
   | @cons _ _ _ s1 _ _ G1 _ h1 hr2=>
    have hf1:Fin G1:=by
     obtain⟨_,u,_,e1⟩:=(step_iff hi).1 h1;exact e1.fin hf
    refine step_wp h1 h fun a' w' E' h'=> ?_;have hpp:pre++post=(List.range ops.size).filter fun j=> !(L.setIfInBounds i true).getD j true:=by
     have e1:((List.range ops.size).filter fun j=> !(L.setIfInBounds i true).getD j true)=((List.range ops.size).filter fun i=> !L.getD i true).filter fun j=>decide (j≠i):=by
      rw[List.filter_filter];refine List.filter_congr fun j hj=> ?_;rw[List.mem_range]at hj;rw[getD_set];by_cases hij:i=j
      ·subst hij;have:i<L.size:=(by omega);simp[this]
      ·have hji:¬j=i:=fun e=>hij e.symm;simp[hij,hji]
     rw[e1,hR,List.filter_append,List.filter_cons];have q1:pre.filter (fun j=>decide (j≠i))=pre:=List.filter_eq_self.2 fun j hj=>(by have:=hprelt j hj;simp;omega);have q2:post.filter (fun j=>decide (j≠i))=post:=List.filter_eq_self.2 fun j hj=>by
      rw[hR]at hsort;have:=(List.pairwise_cons.1 (List.pairwise_append.1 hsort).2.1).1 j hj;simp;omega
     rw[q1,q2,if_neg (by simp)]
    refine ih _ (by obtain⟨_,u,e0,_⟩:=(step_iff hi).1 h1;rw[e0];exact hS.put (fun p' hp'=>fixT_spec (fixO_spec hfx1 p' hp') hi) fun q hq=>fixT_spec (List.all_eq_true.1 hfx2 q hq) hi) (by simp[hsz]) (fun j o hj ho e he hb=> ?_) ?_ (by rw[←hpp];exact hr2) hf1 h'
    ·simp only[getD_set]at hj⊢;split
     ·rfl
     ·split at hj
      ·rename_i h2;obtain⟨rfl,_⟩:=h2;rw[hi]at ho;injection ho with ho;subst ho;exact hpre e (by simpa using he) hb
      ·exact hcl j o hj ho e he hb
    ·rw[←hpp];rw[hR]at hl;simp at hl⊢;omega
theorem drawn_wpL {p:Option Tmp} {qs:List Tmp} {r:Option Nat} {n:Nat} {Q:Exit→Act→World→Prop} {id:Nat} (hm:P.follows .mixedOrders=true) (hok:okDrawL P ops p qs=true) (hS:LateS s p qs) (hr:Runs P N ops (List.range ops.size) s G s' G') (hf:Fin G) (h:RelAt P N E1 w1 s G a w E) (hQ:∀a' w' E',RelAt P N E1 w1 s' G' a' w' E'→Q .normal a' w'):(Code.region id ops true).wpIn (FW r) n P Q a w:=by
 have hb:Below w.heap.size w {w with drawn:=w.drawn+1} :=⟨rfl,rfl,rfl,Nat.le_refl _,fun _ _=>rfl⟩;obtain⟨hR,he⟩:=h.rel.below hb;have h':RelAt P N E1 w1 s G a {w with drawn:=w.drawn+1} E:=⟨fun t=>(h.slots t).ext he (En.Le.refl _ _),hR,h.ext.trans he (fun b hb hW=>h.le.W b hb hW),h.le,h.defers.ext he (fun _ _ h=>h),h.size⟩;have hall:((List.range ops.size).filter fun i=> !(Array.replicate ops.size false).getD i true)=List.range ops.size:=List.filter_eq_self.2 fun i hi=>by
  rw[List.mem_range]at hi;simp[Array.getD_eq_getD_getElem?,hi]
 refine wpIn_region_any hm (any_wpL hok hQ ops.size _ hS (by simp) (fun i o hi=> ?_) (by rw[hall];simp) (by rw[hall];exact hr) hf h');simp[Array.getD_eq_getD_getElem?,Array.getElem?_replicate]at hi;split at hi<;>simp at hi
end
abbrev KS:=Sl→Hp→Nat→Prop
def FreshFrom (G:Hp) (nx:Nat):Prop:=∀i,nx≤i→G i=none
def Left1 (P:Program) [Gl P] (E:En) (w:World) (K:AV→Hp→Nat→Prop) (e:Ending) (w':World):Prop:=
 ∃u v E' G' nx',e=.returned u∧VR P E' w' v u∧Rel P E' w' G'∧FreshFrom G' nx'∧Ext E.W w w'∧En.Le w E E'∧K v G' nx'
def InlK (P:Program) [Gl P] (f:FuncId) (as:List AV) (K:AV→Hp→Nat→Prop) (G:Hp) (nx:Nat):Prop:=
 (∀args w,(callFunc f args).run P w=.ok (.enter f args) w)∧∀(E:En) (w:World) (us:List Value),Rel P E w G→FreshFrom G nx→All2 (VR P E w) as us→Calls P f us.toArray w (Left1 P E w K)
def YldK (P:Program) [Gl P] (id:Nat) (as:List AV) (K:AV→Hp→Nat→Prop) (G:Hp) (nx:Nat):Prop:=
 ∀(E:En) (w:World) (us:List Value) (b:Nat),Rel P E w G→FreshFrom G nx→E.φ id=some b→All2 (VR P E w) as us→
  ∃fn tmps assign body,(Instr.yield b us.toArray).run P w=.ok (.round b fn tmps assign body) w∧∀n,RoundIn (FW none) n P b fn tmps assign body w (Left1 P E w K)
def yldA (s:Sl) (o:Oper):Option (Nat×List AV):=
 match o.op with
 | .call c=>match c.callee with
  | .value (.tmp t)=>match s t with
   | .yl id=>some (id,c.args.toList.map (evX s))
   | _=>none
  | _=>none
 | _=>none
def IsLp (G:Hp) (id:Nat):Prop:=∃st pd s N ps a b,G id=some (.lp st pd s N ps a b)
def ACall (P:Program) [Gl P] (d:Bool) (f:FuncId) (as:List AV) (cls:Nat) (K:AV→Hp→Nat→Prop) (G:Hp) (nx:Nat):Prop:=
 (∃ts r J,seesA P G as=some ts∧CallsOK P f ts r J∧(flatR r=true∧flatJ J=true)∧K (shiftT nx r) (addJ G nx J) (nx+J.length))∨
 (∃ts G1 r J,argsOf P G as=some (ts,G1)∧CallsOK P f ts r J∧K (shiftT nx r) (addJ G1 nx J) (nx+J.length))∨
 ((as≠[]∧Gl.inl P f=true)∧∃v G' nx',(FreshFrom G nx→InlOK P f as G v G'∧(cls=3∨Grows G G')∧FreshFrom G' nx')∧K v G' nx')∨
 (d=false∧InlK P f as K G nx)
def thenK (K:KS) (s:Sl) (d:Option Tmp):AV→Hp→Nat→Prop:=fun v G' nx'=>K (s.put d v) G' nx'
def AStep (P:Program) [Gl P] (N:Nat) (ops:Array Oper) (d:Bool) (o:Oper) (K:KS) (s:Sl) (G:Hp) (nx:Nat):Prop:=
 dstOK N o=true∧match wantA ops o s with
 | some true=>(match callA s o with
    | some (f,as)=>ACall P d f as (clsOf o) (thenK K s o.dst) G nx
    | none=>match yldA s o with
    | some (id,as)=>d=false∧IsLp G id∧YldK P id as (thenK K s o.dst) G nx
    | none=>match evC P s G nx o with
     | some (v,G',nx')=>K (s.put o.dst v) G' nx'
     | none=>False)
 | some false=>K (s.put o.dst .und) G nx
 | none=>False
def AOps (P:Program) [Gl P] (N:Nat) (ops:Array Oper) (d:Bool):List Oper→KS→KS
 | [],K=>K
 | o::os,K=>AStep P N ops d o (AOps P N ops d os K)
def AStepP (P:Program) [Gl P] (N:Nat) (ops:Array Oper) (d:Bool) (o:Oper) (K:KS) (s:Sl) (G:Hp) (nx:Nat):Prop:=
 if mustPure ops o=true then dstOK N o=true∧match wantA ops o s with
  | some true=>(match pureA P s o with
   | some v=>K (s.put o.dst v) G nx
   | none=>False)
  | some false=>K (s.put o.dst .und) G nx
  | none=>False
 else AStep P N ops d o K s G nx
def AOpsP (P:Program) [Gl P] (N:Nat) (ops:Array Oper) (d:Bool):List Oper→KS→KS
 | [],K=>K
 | o::os,K=>AStepP P N ops d o (AOpsP P N ops d os K)
theorem aopsP_of {P:Program} [Gl P] {N:Nat} {ops:Array Oper} {d:Bool} (hr:regP ops=false):∀(os:List Oper) (K:KS),AOpsP P N ops d os K=AOps P N ops d os K
 | [],K=>rfl
 | o::os,K=>by
  have hm:mustPure ops o=false:=(by simp[mustPure,hr]);show AStepP P N ops d o (AOpsP P N ops d os K)=AStep P N ops d o (AOps P N ops d os K);rw[aopsP_of hr os K];funext s G nx;simp[AStepP,hm]
def ARange (P:Program) [Gl P] (N:Nat) (g:Operand) (ps:Array Tmp) (assign body:Code) (K:Exit→KS):KS:=fun s G nx=>
 ∀(n:Nat) (E1:En) (w1:World) (a:Act) (w:World) (E:En) (Q:Exit→Act→World→Prop),RelAt P N E1 w1 s G a w E→FreshFrom G nx→
  (∀e s' G' nx' a' w' E',K e s' G' nx'→FreshFrom G' nx'→RelAt P N E1 w1 s' G' a' w' E'→Q e a' w')→(Code.rangeFunc g ps assign body).wpIn (FW none) n P Q a w
def noRange:Code→Bool
 | .seq a b=>noRange a&&noRange b
 | .cond _ a b=>noRange a&&noRange b
 | .block _ a=>noRange a
 | .loop a=>noRange a
 | .rangeFunc .. =>false
 | .scope _=>false
 | _=>true
def OkDraw (P:Program) [Gl P] (ops:Array Oper) (s:Sl):Prop:=okDraw ops=true∨∃p qs,okDrawL P ops p qs=true∧LateS s p qs
def AW (P:Program) [Gl P] (N:Nat):Code→(Exit→KS)→KS
 | .skip,K=>K .normal
 | .label _,K=>K .normal
 | .region _ ops d,K=>fun s G nx=>(d=true→OkDraw P ops s)∧AOpsP P N ops d ops.toList (K .normal) s G nx
 | .seq a b,K=>AW P N a (fun e=>match e with
   | .normal=>AW P N b K
   | e=>K e)
 | .cond c a b,K=>fun s G nx=>(∃t,evX s c=.v (.bool t)∧(if t=true then AW P N a K s G nx else AW P N b K s G nx))∨(evX s c=.bl∧AW P N a K s G nx∧AW P N b K s G nx)
 | .block id a,K=>AW P N a (fun e=>match e with
   | .exit id'=>if id'=id then K .normal else K (.exit id')
   | e=>K e)
 | .loop a,K=>fun s G nx=>∃(I:KS) (μ:Sl→Hp→Nat→Nat),I s G nx∧∀s G nx,FreshFrom G nx→I s G nx→AW P N a (fun e s' G' nx'=>match e with
   | .normal=>I s' G' nx'∧μ s' G' nx'<μ s G nx
   | e=>K e s' G' nx') s G nx
 | .exit id,K=>K (.exit id)
 | .goto l,K=>K (.goto l)
 | .ret,K=>K .ret
 | .rangeFunc g ps assign body,K=>ARange P N g ps assign body K
 | .scope a,K=>AW P N a (fun e=>match e with
   | .goto _=>fun _ _ _=>False
   | e=>K e)
 | _,_=>fun _ _ _=>False
section
variable {P:Program} [Gl P] {N:Nat} {ops:Array Oper} {s s':Sl} {G G':Hp} {nx:Nat} {E1:En} {w1 w:World} {a:Act} {E:En}
theorem FreshFrom.fin (h:FreshFrom G nx):Fin G:=⟨nx,h⟩
theorem addJ_fresh {J:Js} (h:FreshFrom G nx):FreshFrom (addJ G nx J) (nx+J.length):=fun i hi=>by
 show(if nx≤i∧i-nx<J.length then ofJ J (i-nx)else G i)=none;rw[if_neg (by omega)];exact h i (by omega)
theorem astep_step {i:Nat} {o:Oper} {K:KS} (hi:ops[i]? =some o) (hf:FreshFrom G nx) (h:AStepP P N ops true o K s G nx):∃s' G' nx',Step P N ops i s G s' G'∧K s' G' nx'∧FreshFrom G' nx':=by
 unfold AStepP at h;split at h
 ·rename_i hm;obtain⟨hd,h⟩:=h;split at h
  ·rename_i hw;split at h
   ·rename_i v hp;exact⟨_,_,_,.pure hi hd hw hm hp,h,hf⟩
   ·exact h.elim
  ·rename_i hw;exact⟨_,_,_,.off hi hd hw,h,hf⟩
  ·exact h.elim
 rename_i hm;have hm:mustPure ops o=false:=(by simpa using hm);obtain⟨hd,h⟩:=h;split at h
 ·rename_i hw;split at h
  ·rename_i f as hc;rcases h with⟨ts,r,J,ha,hk,h1,h⟩ | ⟨ts,G1,r,J,ha,hk,h⟩ | ⟨hne,v,G',nx',hk,h⟩ | ⟨h,_⟩
   ·exact⟨_,_,_,.keep hi hd hw hc ha (fun j hj=>hf j hj.1) hk h1,h,addJ_fresh hf⟩
   ·have hf1:FreshFrom G1 nx:=fun i hi=>args_none ha (hf i hi);exact⟨_,_,_,.call hi hd hw hc ha (fun j hj=>hf j hj.1) hk,h,addJ_fresh hf1⟩
   ·obtain⟨hk,hg,hfr⟩:=hk hf;exact⟨_,_,_,.inl hi hd hw hc hne hk hg (fun _=>hfr.fin),h,hfr⟩
   ·cases h
  ·split at h
   ·cases h.1
   ·split at h
    ·rename_i v G' nx' he;refine⟨_,_,_,.op hi hd hw hm (hf nx (Nat.le_refl _)) he,h,?_⟩;rcases evC_none he with⟨rfl,h2⟩ | ⟨rfl,h2⟩
     ·exact fun i hi=>h2 i (hf i hi)
     ·exact fun i hi=>h2 i (by omega) (hf i (by omega))
    ·exact h.elim
 ·rename_i hw;exact⟨_,_,_,.off hi hd hw,h,hf⟩
 ·exact h.elim
theorem aops_runs {K:KS} :∀(os:List Oper) (k:Nat) {s:Sl} {G:Hp} {nx:Nat},os=ops.toList.drop k→FreshFrom G nx→AOpsP P N ops true os K s G nx→∃s' G' nx',Runs P N ops (List.range' k os.length) s G s' G'∧K s' G' nx'∧FreshFrom G' nx'
 | [],k,s,G,nx,_,hf,h=>⟨_,_,_,.nil,h,hf⟩
 | o::os,k,s,G,nx,hk,hf,h=>by
  have hi:ops[k]? =some o:=by
   have:(ops.toList.drop k)[0]? =some o:=(by rw[←hk];rfl);rw[List.getElem?_drop]at this;simpa using this
  have hk2:os=ops.toList.drop (k+1):=by
   have:(ops.toList.drop k).tail=os:=(by rw[←hk];rfl);rw[←this,List.tail_drop]
  obtain⟨s1,G1,nx1,h1,h2,hf1⟩:=astep_step hi hf h;obtain⟨s2,G2,nx2,h3,h4,hf2⟩:=aops_runs os (k+1) hk2 hf1 h2;exact⟨s2,G2,nx2,.cons h1 h3,h4,hf2⟩
theorem yldA_run {o:Oper} {id:Nat} {as:List AV} (hx:∀t,VR P E w (s t) (a.tmps.getD t undef)) (h:yldA s o=some (id,as)) {b:Nat} (hb:E.φ id=some b):
  (∀c,o.op≠ .defer c)∧∃us:List Value,All2 (VR P E w) as us∧(execOp a.eval o).run P w=(Instr.yield b us.toArray).run P w:=by
 unfold yldA at h;split at h
 ·rename_i c hop;have e:(c.args.map a.eval)=(c.args.toList.map a.eval).toArray:=(by simp[←Array.toList_inj]);split at h
  ·rename_i t hc;split at h
   ·rename_i id' ht;simp only[Option.some.injEq,Prod.mk.injEq]at h;obtain⟨rfl,rfl⟩:=h;have h1:=hx t;rw[ht]at h1;have hu:=h1.yl_inv hb;refine⟨fun c' hc'=>(by rw[hop]at hc';cases hc'),c.args.toList.map a.eval,evXs hx,?_⟩;simp[execOp,hop,resolve,hc,Act.eval,hu,Deferred.ofValue,invoke];exact congrArg (fun x=>(Instr.yield b x).run P w) e
   ·cases h
  ·cases h
 ·cases h
theorem astep_wp {r:Option Nat} {n:Nat} {i:Nat} {o:Oper} {K:KS} {Q:Exit→Act→World→Prop} {Kw:Act→World→Prop} (hi:ops[i]? =some o) (hf:FreshFrom G nx) (h:AStepP P N ops false o K s G nx) (hr:RelAt P N E1 w1 s G a w E)
  (hK:∀s' G' nx' a' w' E',K s' G' nx'→FreshFrom G' nx'→RelAt P N E1 w1 s' G' a' w' E'→Kw a' w'):wpOpIn (FW r) n P ops Q i Kw a w:=by
 unfold AStepP at h;split at h
 ·rename_i hm;obtain⟨hd,h⟩:=h;split at h
  ·rename_i hw;split at h
   ·rename_i v hp;exact step_wp (.pure hi hd hw hm hp) hr fun a' w' E' h'=>hK _ _ _ _ _ _ h hf h'
   ·exact h.elim
  ·rename_i hw;exact step_wp (.off hi hd hw) hr fun a' w' E' h'=>hK _ _ _ _ _ _ h hf h'
  ·exact h.elim
 rename_i hm;have hm:mustPure ops o=false:=(by simpa using hm);obtain⟨hd,h⟩:=h;split at h
 ·rename_i hw;split at h
  ·rename_i f as hc;rcases h with⟨ts,r,J,ha,hk,h1,h⟩ | ⟨ts,G1,r,J,ha,hk,h⟩ | ⟨hne,v,G',nx',hk,h⟩ | ⟨_,hk⟩
   ·exact step_wp (.keep hi hd hw hc ha (fun j hj=>hf j hj.1) hk h1) hr fun a' w' E' h'=>hK _ _ _ _ _ _ h (addJ_fresh hf) h'
   ·have hf1:FreshFrom G1 nx:=fun i hi=>args_none ha (hf i hi);exact step_wp (.call hi hd hw hc ha (fun j hj=>hf j hj.1) hk) hr fun a' w' E' h'=>hK _ _ _ _ _ _ h (addJ_fresh hf1) h'
   ·obtain⟨hk,hg,hfr⟩:=hk hf;exact step_wp (.inl hi hd hw hc hne hk hg (fun _=>hfr.fin)) hr fun a' w' E' h'=>hK _ _ _ _ _ _ h hfr h'
   ·unfold wpOpIn;rw[hi];simp only[want_sound hr hw,if_true];refine⟨fun _ _=>trivial,?_⟩;rw[Oper.semAt_eq _ _ _ (callA_defer hc)];obtain⟨us,hus,hrun⟩:=callA_run hr.slots hc;rw[hrun hk.1];refine⟨FW_depth,callsFW ((hk.2 E w us hr.rel hf hus).mono fun e w1 h1=> ?_)⟩;obtain⟨u,v,E1,G1,nx1,rfl,hv,hR1,hf1,he1,hle1,hk1⟩:=h1;exact hK _ _ _ _ _ _ hk1 hf1 (hr.put hd hv hR1 he1 hle1)
  ·split at h
   ·rename_i id as hy;obtain⟨_,⟨st,pd,s0,N0,ps,as0,bd,hG⟩,hk⟩:=h;obtain⟨b,hb,_⟩:=hr.rel.obj' hG rfl (fun e he=>by cases he);obtain⟨hnd,us,hus,hrun⟩:=yldA_run hr.slots hy hb;unfold wpOpIn;rw[hi];simp only[want_sound hr hw,if_true];refine⟨fun _ _=>trivial,?_⟩;rw[Oper.semAt_eq _ _ _ hnd,hrun];obtain⟨fn,tmps,assign,body,hy1,hy2⟩:=hk E w us b hr.rel hf hb hus;rw[hy1];refine⟨FW_depth,RoundIn.mono (hy2 _) fun e w1 h1=> ?_⟩;obtain⟨u,v,E1,G1,nx1,rfl,hv,hR1,hf1,he1,hle1,hk1⟩:=h1;exact hK _ _ _ _ _ _ hk1 hf1 (hr.put hd hv hR1 he1 hle1)
   ·split at h
    ·rename_i v G' nx' he;refine step_wp (.op hi hd hw hm (hf nx (Nat.le_refl _)) he) hr fun a' w' E' h'=>hK _ _ _ _ _ _ h ?_ h';rcases evC_none he with⟨rfl,h2⟩ | ⟨rfl,h2⟩
     ·exact fun i hi=>h2 i (hf i hi)
     ·exact fun i hi=>h2 i (by omega) (hf i (by omega))
    ·exact h.elim
 ·rename_i hw;exact step_wp (.off hi hd hw) hr fun a' w' E' h'=>hK _ _ _ _ _ _ h hf h'
 ·exact h.elim
theorem aops_wp {r:Option Nat} {n:Nat} {K:KS} {Q:Exit→Act→World→Prop} (hQ:∀s' G' nx' a' w' E',K s' G' nx'→FreshFrom G' nx'→RelAt P N E1 w1 s' G' a' w' E'→Q .normal a' w'):∀(os:List Oper) (k:Nat) {s:Sl} {G:Hp} {nx:Nat} {a:Act} {w:World} {E:En},os=ops.toList.drop k→FreshFrom G nx→AOpsP P N ops false os K s G nx→RelAt P N E1 w1 s G a w E→wpOpsIn (FW r) n P ops Q (List.range' k os.length) a w
 | [],k,s,G,nx,a,w,E,_,hf,h,hr=>hQ _ _ _ _ _ _ h hf hr
 | o::os,k,s,G,nx,a,w,E,hk,hf,h,hr=>by
  have hi:ops[k]? =some o:=by
   have:(ops.toList.drop k)[0]? =some o:=(by rw[←hk];rfl);rw[List.getElem?_drop]at this;simpa using this
  have hk2:os=ops.toList.drop (k+1):=by
   have:(ops.toList.drop k).tail=os:=(by rw[←hk];rfl);rw[←this,List.tail_drop]
  show wpOpsIn (FW r) n P ops Q (k::List.range' (k+1) os.length) a w;rw[wpOpsIn_cons];exact astep_wp hi hf h hr fun s' G' nx' a' w' E' h1 h2 h3=>aops_wp hQ os (k+1) hk2 h2 h1 h3
theorem region_aw {r:Option Nat} {n:Nat} {id:Nat} {d:Bool} {K:KS} {Q:Exit→Act→World→Prop} (hm:P.follows .mixedOrders=true) (hd:d=true→OkDraw P ops s) (h:AOpsP P N ops d ops.toList K s G nx) (hf:FreshFrom G nx) (hr:RelAt P N E1 w1 s G a w E)
  (hQ:∀s' G' nx' a' w' E',K s' G' nx'→FreshFrom G' nx'→RelAt P N E1 w1 s' G' a' w' E'→Q .normal a' w'):(Code.region id ops d).wpIn (FW r) n P Q a w:=by
 cases d with
 | false=>
  have:=aops_wp (r:=r) (n:=n) hQ ops.toList 0 (by simp) hf h hr;refine wpIn_region ?_;rw[List.range_eq_range'];simpa using this
 | true=>
  obtain⟨s',G',nx',h1,h2,hf'⟩:=aops_runs ops.toList 0 (by simp) hf h;have h1':Runs P N ops (List.range ops.size) s G s' G':=by
   rw[List.range_eq_range'];simpa using h1
  rcases hd rfl with hd | ⟨p,qs,hd,hS⟩
  ·exact drawn_wp hm hd h1' hf.fin hr fun a' w' E' h'=>hQ _ _ _ _ _ _ h2 hf' h'
  ·exact drawn_wpL hm hd hS h1' hf.fin hr fun a' w' E' h'=>hQ _ _ _ _ _ _ h2 hf' h'
theorem exists_min {p:Nat→Prop} (h:∃n,p n):∃n,p n∧∀m,p m→n≤m:=by
 obtain⟨n,hn⟩:=h;induction n using Nat.strongRecOn with
 | _ n ih=>
  by_cases hx:∃m,m<n∧p m
  ·obtain⟨m,hm,hp⟩:=hx;exact ih m hm hp
  ·exact⟨n,hn,fun m hm=>by
    rcases Nat.lt_or_ge m n with h1 | h1
    ·exact absurd ⟨m,h1,hm⟩ hx
    ·exact h1⟩
theorem aw_sound {r:Option Nat} {n:Nat} (hm:P.follows .mixedOrders=true):∀(c:Code),(r=none∨noRange c=true)→∀ {K:Exit→KS} {s:Sl} {G:Hp} {nx:Nat} {a:Act} {w:World} {E:En} {Q:Exit→Act→World→Prop},AW P N c K s G nx→FreshFrom G nx→RelAt P N E1 w1 s G a w E→
  (∀e s' G' nx' a' w' E',K e s' G' nx'→FreshFrom G' nx'→RelAt P N E1 w1 s' G' a' w' E'→Q e a' w')→c.wpIn (FW r) n P Q a w:=by
 intro c;induction c with
 | skip=>intro _ K s G nx a w E Q h hf hr hQ;exact wpIn_skip (hQ _ _ _ _ _ _ _ h hf hr)
 | label l=>intro _ K s G nx a w E Q h hf hr hQ;exact wpIn_label (hQ _ _ _ _ _ _ _ h hf hr)
 | exit id=>intro _ K s G nx a w E Q h hf hr hQ;exact wpIn_exit (hQ _ _ _ _ _ _ _ h hf hr)
 | goto l=>intro _ K s G nx a w E Q h hf hr hQ;exact wpIn_goto (hQ _ _ _ _ _ _ _ h hf hr)
 | ret=>intro _ K s G nx a w E Q h hf hr hQ;exact wpIn_ret (hQ _ _ _ _ _ _ _ h hf hr)
 | region id ops d=>intro _ K s G nx a w E Q h hf hr hQ;exact region_aw hm h.1 h.2 hf hr fun s' G' nx' a' w' E' h1 h2 h3=>hQ _ _ _ _ _ _ _ h1 h2 h3
 | seq x y ihx ihy=>
  intro nr K s G nx a w E Q h hf hr hQ;refine wpIn_seq (ihx (nr.imp_right fun h=>(Bool.and_eq_true_iff.1 h).1) h hf hr fun e s' G' nx' a' w' E' h1 h2 h3=> ?_);cases e with
  | normal=>exact ihy (nr.imp_right fun h=>(Bool.and_eq_true_iff.1 h).2) h1 h2 h3 hQ
  | _=>exact hQ _ _ _ _ _ _ _ h1 h2 h3
 | cond c x y ihx ihy=>
  intro nr K s G nx a w E Q h hf hr hQ;rcases h with⟨t,ht,h⟩ | ⟨ht,h1,h2⟩
  case inr=>
   have:=evX_sound hr.slots c;rw[ht]at this;generalize hv:a.eval c=v at this;cases this with
   | tree h=>cases h
   | bl b=>
    refine wpIn_cond hv ?_;cases b with
    | true=>exact ihx (nr.imp_right fun h=>(Bool.and_eq_true_iff.1 h).1) h1 hf hr hQ
    | false=>exact ihy (nr.imp_right fun h=>(Bool.and_eq_true_iff.1 h).2) h2 hf hr hQ
  have hc:a.eval c=.bool t:=by
   have:=evX_sound hr.slots c;rw[ht]at this;exact this.v_inv.1
  refine wpIn_cond hc ?_;cases t with
  | true=>exact ihx (nr.imp_right fun h=>(Bool.and_eq_true_iff.1 h).1) h hf hr hQ
  | false=>exact ihy (nr.imp_right fun h=>(Bool.and_eq_true_iff.1 h).2) h hf hr hQ
 | block id x ih=>
  intro nr K s G nx a w E Q h hf hr hQ;refine wpIn_block (ih nr h hf hr fun e s' G' nx' a' w' E' h1 h2 h3=> ?_);cases e with
  | exit id'=>
   show(if id'=id then Q .normal a' w' else Q (.exit id') a' w');simp only at h1;split
   ·rename_i hid;rw[if_pos hid]at h1;exact hQ _ _ _ _ _ _ _ h1 h2 h3
   ·rename_i hid;rw[if_neg hid]at h1;exact hQ _ _ _ _ _ _ _ h1 h2 h3
  | _=>exact hQ _ _ _ _ _ _ _ h1 h2 h3
 | loop x ih=>
  intro nr K s G nx a w E Q h hf hr hQ;obtain⟨I,μ,hI,hround⟩:=h
  let A:Act→World→Nat→Prop:=fun a w n=>∃s G nx E,FreshFrom G nx∧RelAt P N E1 w1 s G a w E∧I s G nx∧μ s G nx=n
  have hmin:∀a w,(∃n,A a w n)→∃n,A a w n∧∀m,A a w m→n≤m:=fun a w h=>exists_min h
  classical
  let μ':Act→World→Nat:=fun a w=>if h:∃n,A a w n then Classical.choose (hmin a w h)else 0
  have hμ:∀a w (h:∃n,A a w n),A a w (μ' a w)∧∀m,A a w m→μ' a w≤m:=fun a w h=>by
   have:=Classical.choose_spec (hmin a w h);simp only[μ',dif_pos h];exact this
  refine wpIn_loop (fun a w=>∃n,A a w n) μ' ⟨_,_,_,_,_,hf,hr,hI,rfl⟩ fun a w hA=> ?_;obtain⟨⟨s1,G1,nx1,E1,hf1,hr1,hI1,hn1⟩,_⟩:=hμ a w hA;refine ih nr (hround s1 G1 nx1 hf1 hI1) hf1 hr1 fun e s' G' nx' a' w' E' h1 h2 h3=> ?_;cases e with
  | normal=>
   have hA':A a' w' (μ s' G' nx'):=⟨_,_,_,_,h2,h3,h1.1,rfl⟩;refine⟨⟨_,hA'⟩,?_⟩;have:=(hμ a' w' ⟨_,hA'⟩).2 _ hA';have:=h1.2;omega
  | _=>exact hQ _ _ _ _ _ _ _ h1 h2 h3
 | rangeFunc g ps assign body=>
  intro nr K s G nx a w E Q h hf hr hQ;rcases nr with rfl | nr
  ·exact h n E1 w1 a w E Q hr hf hQ
  ·cases nr
 | scope x ih=>
  intro nr K s G nx a w E Q h hf hr hQ;rcases nr with rfl | nr
  ·refine(wpIn_wide (n:=n)).2 (wp_scope_straight ((wpIn_wide (n:=n)).1 (ih (.inl rfl) h hf hr fun e s' G' nx' a' w' E' h1 h2 h3=> ?_)));cases e with
   | goto l=>exact h1.elim
   | _=>exact hQ _ _ _ _ _ _ _ h1 h2 h3
  ·cases nr
 | _=>intro _ K s G nx a w E Q h;exact h.elim
end
section
variable {P:Program} [Gl P] {N:Nat} {E1:En} {w1:World} {s:Sl} {G:Hp} {a:Act} {w:World} {E:En}
theorem put_heap {l:Nat} {o':Obj} (b:Nat) (hb:b≠l):(w.putObj l o').heap[b]? =w.heap[b]? :=World.putObj_heap_other hb
theorem put_self {l:Nat} {o o':Obj} (h:w.heap[l]? =some o):(w.putObj l o').heap[l]? =some o':=World.putObj_heap_same (Array.getElem?_eq_some_iff.1 h).1
theorem put_cell {l:Nat} {o o':Obj} (h:w.heap[l]? =some o) (ho:o.isCells=false) (ho':o'.isCells=false) (p:Addr):(w.putObj l o').cell? p=w.cell? p:=by
 unfold World.cell?;by_cases hb:p.block=l
 ·rw[hb,put_self h,h];cases o<;>cases o'<;>first | rfl | (simp[Obj.isCells]at ho ho')
 ·rw[put_heap _ hb]
theorem put_shape {l:Nat} {o o':Obj} (h:w.heap[l]? =some o) (ho:o.isCells=false) (ho':o'.isCells=false) (b:Nat):(w.putObj l o').shape? b=w.shape? b:=by
 unfold World.shape?;by_cases hb:b=l
 ·rw[hb,put_self h,h];cases o<;>cases o'<;>first | rfl | (simp[Obj.isCells]at ho ho')
 ·rw[put_heap _ hb]
theorem TR.put {M:Nat→Prop} {l:Nat} {o o':Obj} (h:w.heap[l]? =some o) (ho:o.isCells=false) (ho':o'.isCells=false) {x:AV} {u:Value} (hx:TR M w x u):TR M (w.putObj l o') x u:=by
 induction hx with
 | v h=>exact .v h
 | nil A hn=>exact .nil A hn
 | sl hn h0 hb hl hc hr ih=>exact .sl hn h0 hb hl (fun i u hu=>by rw[put_cell h ho ho'];exact hc i u hu) ih
theorem VR.put {l:Nat} {o o':Obj} (h:w.heap[l]? =some o) (ho:o.isCells=false) (ho':o'.isCells=false) {x:AV} {u:Value} (hx:VR P E w x u):VR P E (w.putObj l o') x u:=by
 induction hx with
 | any u=>exact .any u
 | und=>exact .und
 | tree hx=>exact .tree (hx.put h ho ho')
 | agg hl _ h1 ih=>exact .agg hl ih h1
 | tup hl _ ih=>exact .tup hl ih
 | ptr hK h1 h=>exact .ptr hK h1 h
 | row hK h1 h2 hN=>
  refine .row hK h1 (fun b hb=> ?_) hN;obtain⟨cap,e,q1,q2,q3,q4⟩:=h2 b hb;exact⟨cap,e,q1,q2,q3,by rw[put_shape h ho ho'];exact q4⟩
 | ea h0 h1 h ih=>exact .ea ih h1 h
 | mp hK h1 h=>exact .mp hK h1 h
 | bl b=>exact .bl b
 | yl hK h1 h=>exact .yl hK h1 h
 | cp hb hl h0 hc hr=>exact .cp hb hl h0 (fun i u hu=>by rw[put_cell h ho ho'];exact hc i u hu) (fun i a u ha hu=>(hr i a u ha hu).put h ho ho')
 | fn hl _ ih=>exact .fn hl ih
 | mt hl _ ih=>exact .mt hl ih
theorem OR.put {l:Nat} {o o':Obj} (h:w.heap[l]? =some o) (ho:o.isCells=false) (ho':o'.isCells=false) {b:Nat} (hb:b≠l) {x:AObj} (hx:OR P E w b x):OR P E (w.putObj l o') b x:=by
 have hh:=put_heap (w:=w) (o':=o') b hb;cases x with
 | var t cs=>obtain⟨us,q1,q2,q3,q4⟩:=hx;exact⟨us,hh.trans q1,q2,q3,fun i a u ha hu=>(q4 i a u ha hu).put h ho ho'⟩
 | row e cs=>obtain⟨us,q1,q2,q4⟩:=hx;exact⟨us,hh.trans q1,q2,fun i a u ha hu=>(q4 i a u ha hu).put h ho ho'⟩
 | frz e cs=>obtain⟨us,q1,q2,q4⟩:=hx;exact⟨us,hh.trans q1,q2,fun i a u ha hu=>(q4 i a u ha hu).put h ho ho'⟩
 | map es=>obtain⟨ents,clock,q1,q2,q3,q4,q5⟩:=hx;exact⟨ents,clock,hh.trans q1,q2,fun i e en he hen=>⟨(q3 i e en he hen).1,(q3 i e en he hen).2.put h ho ho'⟩,q4,q5⟩
 | dead=>exact trivial
 | lp st pd s N ps as bd=>obtain⟨fn,tmps,D,q1,q2,q3⟩:=hx;exact⟨fn,tmps,D,hh.trans q1,q2,fun t=>(q3 t).put h ho ho'⟩
 | df=>exact hh.trans hx
theorem Rel.putO {l:Nat} {o o':Obj} (hR:Rel P E w G) (h:w.heap[l]? =some o) (ho:o.isCells=false) (ho':o'.isCells=false) (hl:∀i,E.φ i≠some l):Rel P E (w.putObj l o') G:=
 ⟨hR.inj,hR.dom,fun i b hb=>by rw[World.putObj_size];exact hR.lt i b hb,fun i o hi ha=>by
   rcases hR.obj i o hi ha with⟨b,hb,hO⟩ | h1
   ·exact .inl ⟨b,hb,hO.put h ho ho' (fun e=>hl i (e▸hb))⟩
   ·exact .inr h1,hR.K,hR.W,hR.nF,fun b hb=>by rw[World.putObj_size];exact hR.Flt b hb,fun w'' h'=>hR.good w'' (ExtC.trans ⟨by rw[World.putObj_size];exact Nat.le_refl _,fun b ob hb hc _=>by rw[put_heap b (fun e=>by rw[e,h]at hb;injection hb with hb;rw[←hb,ho]at hc;cases hc)];exact hb⟩ h' (fun _ _ h=>h))⟩
theorem Rel.putLp {id b N0:Nat} {st st':LoopState} {pd pd':Option Code} {s0:Sl} {ps:Array Tmp} {as0 bd:Code} {r:Loop} (hR:Rel P E w G) (hb:E.φ id=some b) (hG:G id=some (.lp st pd s0 N0 ps as0 bd))
  (hr:w.heap[b]? =some (.loop r)) (h1:r.params=ps) (h2:r.assign=as0) (h3:r.body=bd) (h4:r.tmps.size=N0) (h5:∀t,VR P E w (s0 t) (r.tmps.getD t undef)):
  Rel P E (w.putObj b (.loop {r with state:=st',pending:=pd'})) (G.upd id (.lp st' pd' s0 N0 ps as0 bd))∧Ext E.W w (w.putObj b (.loop {r with state:=st',pending:=pd'})):=by
 have hW:E.W b:=(hR.W b).2 ⟨id,_,hb,hG,rfl⟩;refine⟨⟨hR.inj,fun i c hc=> ?_,fun i c hc=>by rw[World.putObj_size];exact hR.lt i c hc,fun i o hi ha=> ?_,fun i=> ?_,fun c=> ?_,hR.nF,fun c hc=>by rw[World.putObj_size];exact hR.Flt c hc,fun w'' h'=>hR.good w'' (ExtC.trans ⟨by rw[World.putObj_size];exact Nat.le_refl _,fun b2 ob hb2 hc _=>by rw[put_heap b2 (fun e=>by rw[e,hr]at hb2;injection hb2 with hb2;rw[←hb2]at hc;cases hc)];exact hb2⟩ h' (fun _ _ h=>h))⟩,⟨rfl,rfl,rfl,by rw[World.putObj_size];exact Nat.le_refl _,fun c hc hn=>put_heap c (fun e=>hn (e▸hW)),fun c hc=>put_shape hr rfl rfl c⟩⟩
 ·by_cases hi:i=id
  ·subst hi;exact⟨_,Hp.upd_self _ _ _,rfl⟩
  ·rw[Hp.upd_ne _ _ hi];exact hR.dom i c hc
 ·by_cases hid:i=id
  ·subst hid;rw[Hp.upd_self]at hi;injection hi with hi;subst hi;refine .inl ⟨b,hb,r.fn,r.tmps,r.defers,?_,h4,fun t=>(h5 t).put hr rfl rfl⟩;rw[put_self hr];subst h1;subst h2;subst h3;rfl
  ·rw[Hp.upd_ne _ _ hid]at hi;rcases hR.obj i o hi ha with⟨c,hc,hO⟩ | h
   ·exact .inl ⟨c,hc,hO.put hr rfl rfl (fun e=>hid (hR.inj _ _ b (e▸hc) hb))⟩
   ·exact .inr h
 ·by_cases hi:i=id
  ·subst hi;exact⟨fun _=>⟨_,Hp.upd_self _ _ _⟩,fun _=>(hR.K i).2 ⟨_,hG⟩⟩
  ·rw[Hp.upd_ne _ _ hi];exact hR.K i
 ·rw[hR.W c];constructor
  ·rintro⟨i,o,q1,q2,q3⟩;by_cases hi:i=id
   ·subst hi;exact⟨i,_,q1,Hp.upd_self _ _ _,rfl⟩
   ·exact⟨i,o,q1,by rw[Hp.upd_ne _ _ hi];exact q2,q3⟩
  ·rintro⟨i,o,q1,q2,q3⟩;by_cases hi:i=id
   ·subst hi;exact⟨i,_,q1,hG,rfl⟩
   ·exact⟨i,o,q1,by rw[Hp.upd_ne _ _ hi]at q2;exact q2,q3⟩
theorem RelAt.take (h:RelAt P N E1 w1 s G a w E) {d:Deferred} {ds:List Deferred} (hd:a.defers=d::ds):
  ∃(D:Nat) (w':World),d.target=.collected D∧(Instr.takeDeferred D).run P w=.ok [] w'∧RelAt P N E1 w1 s G {a with defers:=ds} w' E:=by
 have hdef:=h.defers;rw[hd]at hdef;obtain⟨D,rfl,h1,h2,h3⟩:=hdef.each d (by simp);have hφ:∀i,E.φ i≠some D:=fun i hi=>by
  obtain⟨o,hG,ha⟩:=h.rel.dom i D hi;by_cases hm:o.mut=true
  ·exact h2 ((h.rel.W D).2 ⟨i,o,hi,hG,hm⟩)
  ·rcases h.rel.obj i o hG ha with⟨b,hb,hO⟩ | ⟨hN,e,rfl⟩
   ·rw[hi]at hb;injection hb with hb;subst hb;cases o<;>first | exact hm rfl | (simp[AObj.alive]at ha;done) | (obtain⟨us,q1,_⟩:=hO;rw[h1]at q1;cases q1)
   ·exact hm rfl
 have hsz:w1.heap.size≤w.heap.size:=h.ext.size;refine⟨D,_,rfl,run_takeDeferred h1,fun t=>(h.slots t).put h1 rfl rfl,h.rel.putO h1 rfl rfl hφ,⟨h.ext.os,h.ext.tape,h.ext.output,by rw[World.putObj_size];exact hsz,fun b hb hn=> ?_,fun b hb=> ?_⟩,h.le,⟨?_,fun d hd'=> ?_⟩,h.size⟩
 ·rw[put_heap b (by omega)];exact h.ext.same b hb hn
 ·rw[put_shape h1 rfl rfl];exact h.ext.shape b hb
 ·have:=hdef.nodup;exact(List.nodup_cons.1 this).2
 ·obtain⟨D',rfl,q1,q2,q3⟩:=hdef.each d (by simp[hd']);refine⟨D',rfl,?_,q2,q3⟩;rw[put_heap D' (fun e=> ?_)]
  ·exact q1
  ·subst e;exact(List.nodup_cons.1 hdef.nodup).1 hd'
theorem RelAt.leaves {fn:Func} {R:Ending→World→Prop} {n:Nat} :∀(ds:List Deferred) {a:Act} {w:World},a.defers=ds→RelAt P N E1 w1 s G a w E→
  (∀a' w',RelAt P N E1 w1 s G a' w' E→a'.tmps=a.tmps→∃v,(results fn a.tmps).run P w'=.ok v w'∧R (.returned v) w')→LeavesInM (FW none) n P fn a.tmps R ds .returning w
 | [],a,w,hd,h,hR=>by
  obtain⟨v,h1,h2⟩:=hR a w h rfl;exact⟨v,h1,h2⟩
 | d::ds,a,w,hd,h,hR=>by
  obtain⟨D,w',q1,q2,q3⟩:=h.take hd;refine⟨by simp,.inl ⟨D,w',q1,q2,?_⟩⟩;exact RelAt.leaves ds (a:= {a with defers:=ds}) rfl q3 hR
end
def exp1 (P:Program) (G:Hp) (ids:List Nat):AV→Option (AV×List Nat)
 | .v x=>some (.v x,ids)
 | .sl n cs=>some (.sl n cs,ids)
 | .row id n=>match G id with
  | some (.row _ _)=>if ids.contains id=true then none else some (.row ids.length n,ids++[id])
  | some (.frz e cs)=>if n*P.cellsOf e≤cs.length then some (.sl n (cs.take (n*P.cellsOf e)),ids)else none
  | _=>none
 | _=>none
def expL (P:Program) (G:Hp):List Nat→List AV→Option (List AV×List Nat)
 | ids,[]=>some ([],ids)
 | ids,a::r=>match exp1 P G ids a with
  | some (b,ids1)=>match expL P G ids1 r with
   | some (bs,ids2)=>some (b::bs,ids2)
   | none=>none
  | none=>none
def expA (P:Program) (G:Hp) (ids:List Nat):AV→Option (AV×List Nat)
 | .agg cs=>(expL P G ids cs).map fun r=>(.agg r.1,r.2)
 | a=>exp1 P G ids a
def expM (P:Program) (G:Hp):List Nat→List AV→Option (List AV×List Nat)
 | ids,[]=>some ([],ids)
 | ids,a::r=>match expA P G ids a with
  | some (b,ids1)=>match expM P G ids1 r with
   | some (bs,ids2)=>some (b::bs,ids2)
   | none=>none
  | none=>none
def expT (P:Program) (G:Hp):AV→Option (AV×List Nat)
 | .tup vs=>(expM P G [] vs).map fun r=>(.tup r.1,r.2)
 | a=>expA P G [] a
def rowOf (G:Hp) (id:Nat):TypeId×List AV:=match G id with
 | some (.row e cs)=>(e,cs)
 | _=>(0,[])
def res1 (P:Program) (s:Sl) (G:Hp):ResultVar→Option AV
 | .tmp t=>some (s t)
 | .cell a t=>evLoad P G t (s a)
def resA (P:Program) (fn:Func) (s:Sl) (G:Hp):Option AV:=
 match fn.results.toList.mapM (res1 P s G)with
 | some [v]=>some v
 | some vs=>some (.tup vs)
 | none=>none
def Post (P:Program) (fn:Func) (r:AV) (J:Js) (e:Exit):KS:=fun s G _=>
 (e=.normal∨e=.ret)∧∃v ids,resA P fn s G=some v∧expT P G v=some (r,ids)∧okT r=true∧J=ids.map (rowOf G)
def expE (E:En) (ids:List Nat):En:=
 {φ:=fun k=>(ids[k]?).bind E.φ,K:=fun k=>k<ids.length,W:=fun b=>∃(k id:Nat),ids[k]? =some id∧E.φ id=some b,F:=E.F,N:=fun k=>∃(id:Nat),ids[k]? =some id∧E.N id}
def IdsOK (G:Hp) (ids:List Nat):Prop:=ids.Nodup∧∀id∈ids,∃e cs,G id=some (.row e cs)
section
variable {P:Program} [Gl P] {N:Nat} {ops:Array Oper} {s s':Sl} {G G':Hp} {nx:Nat} {E1:En} {w1 w:World} {a:Act} {E:En}
theorem expE_W (hR:Rel P E w G) {ids:List Nat} (hI:IdsOK G ids):∀b,(expE E ids).W b→E.W b:=by
 rintro b ⟨k,id,h1,h2⟩;obtain⟨e,cs,hG⟩:=hI.2 id (List.mem_of_getElem? h1);exact(hR.W b).2 ⟨id,_,h2,hG,rfl⟩
theorem expE_M (hR:Rel P E w G) {ids:List Nat} (hI:IdsOK G ids):∀b,(expE E ids).M b→E.M b:=fun b hb=>by
 rcases hb with hb | hb
 ·exact .inl hb
 ·exact .inr (expE_W hR hI b hb)
theorem exp1_ok {ids ids':List Nat} {x r:AV} (h:exp1 P G ids x=some (r,ids')) (hI:IdsOK G ids):IdsOK G ids'∧∃ext,ids'=ids++ext:=by
 cases x with
 | v x=>simp[exp1]at h;obtain⟨_,rfl⟩:=h;exact⟨hI,[],by simp⟩
 | sl n cs=>simp[exp1]at h;obtain⟨_,rfl⟩:=h;exact⟨hI,[],by simp⟩
 | row id n=>
  simp only[exp1]at h;split at h
  ·rename_i e cs hG;split at h
   ·cases h
   ·rename_i hc;simp only[Option.some.injEq,Prod.mk.injEq]at h;obtain⟨_,rfl⟩:=h;refine⟨⟨?_,fun i hi=> ?_⟩,[id],rfl⟩
    ·rw[List.nodup_append];exact⟨hI.1,by simp,fun a ha b hb=>by simp at hb;subst hb;intro e;subst e;exact hc (by simpa using ha)⟩
    ·rcases List.mem_append.1 hi with hi | hi
     ·exact hI.2 i hi
     ·simp at hi;subst hi;exact⟨_,_,hG⟩
  ·split at h
   ·simp only[Option.some.injEq,Prod.mk.injEq]at h;obtain⟨_,rfl⟩:=h;exact⟨hI,[],by simp⟩
   ·cases h
  ·cases h
 | _=>simp[exp1]at h
theorem exp1_sound (hR:Rel P E w G) {ids ids' fin:List Nat} {x r:AV} {u:Value} (h:exp1 P G ids x=some (r,ids')) (hx:VR P E w x u) (hI:IdsOK G fin) (hp:∃ext,fin=ids'++ext):VR P (expE E fin) w r u:=by
 have hM:=expE_M hR hI;cases x with
 | v x=>simp[exp1]at h;obtain⟨rfl,rfl⟩:=h;obtain⟨rfl,h1⟩:=hx.v_inv;exact .tree (.v h1)
 | sl n cs=>simp[exp1]at h;obtain⟨rfl,rfl⟩:=h;exact .tree (hx.sl_inv.M_iff hM)
 | row id n=>
  simp only[exp1]at h;split at h
  ·rename_i e cs hG;split at h
   ·cases h
   ·simp only[Option.some.injEq,Prod.mk.injEq]at h;obtain⟨rfl,rfl⟩:=h;obtain⟨ext,rfl⟩:=hp;have hk:(ids++[id]++ext)[ids.length]? =some id:=(by simp);cases hx with
    | tree h=>cases h
    | row hK h1 h2 h3=>
     refine .row (by show ids.length<(ids++[id]++ext).length;simp) h1 (fun b hb=>h2 b ?_) (fun hN=>h3 ?_)
     ·have hb':((ids++[id]++ext)[ids.length]?).bind E.φ=some b:=hb;rw[hk]at hb';exact hb'
     ·obtain⟨id',h4,h5⟩:=hN;rw[hk]at h4;injection h4 with h4;subst h4;exact h5
  ·rename_i e cs hG;split at h
   ·rename_i hl;simp only[Option.some.injEq,Prod.mk.injEq]at h;obtain⟨rfl,rfl⟩:=h;refine .tree (hx.row_tree hR (.inr hG) hl _ hM fun b hb hm=> ?_);rcases hm with hm | ⟨k,id',h1,h2⟩
    ·exact hR.nF id b hb hm
    ·have:=hR.inj _ _ _ hb h2;subst this;obtain⟨e',cs',hG'⟩:=hI.2 _ (List.mem_of_getElem? h1);rw[hG]at hG';cases hG'
   ·cases h
  ·cases h
 | _=>simp[exp1]at h
theorem expL_ok:∀ {xs rs:List AV} {ids ids':List Nat},expL P G ids xs=some (rs,ids')→IdsOK G ids→IdsOK G ids'∧(∃ext,ids'=ids++ext)∧rs.length=xs.length
 | [],rs,ids,ids',h,hI=>by simp[expL]at h;obtain⟨rfl,rfl⟩:=h;exact⟨hI,⟨[],by simp⟩,rfl⟩
 | x::xs,rs,ids,ids',h,hI=>by
  simp only[expL]at h;split at h
  ·rename_i b ids1 h1;split at h
   ·rename_i bs ids2 h2;simp only[Option.some.injEq,Prod.mk.injEq]at h;obtain⟨rfl,rfl⟩:=h;obtain⟨i1,e1,rfl⟩:=exp1_ok h1 hI;obtain⟨i2,⟨e2,rfl⟩,l2⟩:=expL_ok h2 i1;exact⟨i2,⟨e1++e2,by simp⟩,by simp[l2]⟩
   ·cases h
  ·cases h
theorem expL_sound (hR:Rel P E w G):∀ {xs rs:List AV} {us:List Value} {ids ids' fin:List Nat},expL P G ids xs=some (rs,ids')→IdsOK G ids→All2 (VR P E w) xs us→IdsOK G fin→(∃ext,fin=ids'++ext)→All2 (VR P (expE E fin) w) rs us
 | [],rs,us,ids,ids',fin,h,h0,hx,hI,hp=>by
  simp[expL]at h;obtain⟨rfl,rfl⟩:=h;have:us=[]:=List.eq_nil_of_length_eq_zero (by simpa using hx.1);subst this;exact .nil
 | x::xs,rs,us,ids,ids',fin,h,h0,hx,hI,hp=>by
  obtain⟨u,us,rfl,hx1,hx2⟩:=hx.uncons;simp only[expL]at h;split at h
  ·rename_i b ids1 h1;split at h
   ·rename_i bs ids2 h2;simp only[Option.some.injEq,Prod.mk.injEq]at h;obtain⟨rfl,rfl⟩:=h;obtain⟨i1,_⟩:=exp1_ok h1 h0;obtain⟨_,⟨e2,rfl⟩,_⟩:=expL_ok h2 i1;obtain⟨ext,rfl⟩:=hp;exact .cons (exp1_sound hR h1 hx1 hI ⟨e2++ext,by simp⟩) (expL_sound hR h2 i1 hx2 hI ⟨ext,rfl⟩)
   ·cases h
  ·cases h
theorem expA_ok {ids ids':List Nat} {x r:AV} (h:expA P G ids x=some (r,ids')) (hI:IdsOK G ids):IdsOK G ids'∧∃ext,ids'=ids++ext:=by
 cases x with
 | agg cs=>
  simp only[expA,Option.map_eq_some_iff,Prod.mk.injEq]at h;obtain⟨⟨rs,i2⟩,h1,rfl,rfl⟩:=h;obtain⟨i,e,_⟩:=expL_ok h1 hI;exact⟨i,e⟩
 | _=>exact exp1_ok (by simpa only[expA]using h) hI
theorem expA_sound (hR:Rel P E w G) {ids ids' fin:List Nat} {x r:AV} {u:Value} (h:expA P G ids x=some (r,ids')) (h0:IdsOK G ids) (hx:VR P E w x u) (hI:IdsOK G fin) (hp:∃ext,fin=ids'++ext):VR P (expE E fin) w r u:=by
 cases x with
 | agg cs=>
  simp only[expA,Option.map_eq_some_iff,Prod.mk.injEq]at h;obtain⟨⟨rs,i2⟩,h1,rfl,rfl⟩:=h;obtain⟨us,rfl,hl,hv,hone⟩:=hx.agg_inv;have:=expL_sound hR h1 h0 ⟨hl,hv⟩ hI hp;exact .agg this.1 this.2 hone
 | _=>exact exp1_sound hR (by simpa only[expA]using h) hx hI hp
theorem expM_ok:∀ {xs rs:List AV} {ids ids':List Nat},expM P G ids xs=some (rs,ids')→IdsOK G ids→IdsOK G ids'∧(∃ext,ids'=ids++ext)
 | [],rs,ids,ids',h,hI=>by simp[expM]at h;obtain⟨rfl,rfl⟩:=h;exact⟨hI,⟨[],by simp⟩⟩
 | x::xs,rs,ids,ids',h,hI=>by
  simp only[expM]at h;split at h
  ·rename_i b ids1 h1;split at h
   ·rename_i bs ids2 h2;simp only[Option.some.injEq,Prod.mk.injEq]at h;obtain⟨rfl,rfl⟩:=h;obtain⟨i1,e1,rfl⟩:=expA_ok h1 hI;obtain⟨i2,⟨e2,rfl⟩⟩:=expM_ok h2 i1;exact⟨i2,⟨e1++e2,by simp⟩⟩
   ·cases h
  ·cases h
theorem expM_sound (hR:Rel P E w G):∀ {xs rs:List AV} {us:List Value} {ids ids' fin:List Nat},expM P G ids xs=some (rs,ids')→IdsOK G ids→All2 (VR P E w) xs us→IdsOK G fin→(∃ext,fin=ids'++ext)→All2 (VR P (expE E fin) w) rs us
 | [],rs,us,ids,ids',fin,h,h0,hx,hI,hp=>by
  simp[expM]at h;obtain⟨rfl,rfl⟩:=h;have:us=[]:=List.eq_nil_of_length_eq_zero (by simpa using hx.1);subst this;exact .nil
 | x::xs,rs,us,ids,ids',fin,h,h0,hx,hI,hp=>by
  obtain⟨u,us,rfl,hx1,hx2⟩:=hx.uncons;simp only[expM]at h;split at h
  ·rename_i b ids1 h1;split at h
   ·rename_i bs ids2 h2;simp only[Option.some.injEq,Prod.mk.injEq]at h;obtain⟨rfl,rfl⟩:=h;obtain⟨i1,_⟩:=expA_ok h1 h0;obtain⟨_,⟨e2,rfl⟩⟩:=expM_ok h2 i1;obtain⟨ext,rfl⟩:=hp;exact .cons (expA_sound hR h1 h0 hx1 hI ⟨e2++ext,by simp⟩) (expM_sound hR h2 i1 hx2 hI ⟨ext,rfl⟩)
   ·cases h
  ·cases h
theorem expT_sound (hR:Rel P E w G) {ids:List Nat} {x r:AV} {u:Value} (h:expT P G x=some (r,ids)) (hx:VR P E w x u):IdsOK G ids∧VR P (expE E ids) w r u:=by
 have h0:IdsOK G []:=⟨by simp,fun _ h=>by simp at h⟩;cases x with
 | tup vs=>
  simp only[expT,Option.map_eq_some_iff,Prod.mk.injEq]at h;obtain⟨⟨rs,i2⟩,h1,rfl,rfl⟩:=h;obtain⟨us,rfl,hl,hv⟩:=hx.tup_inv;obtain⟨hI,_⟩:=expM_ok h1 h0;have:=expM_sound hR h1 h0 ⟨hl,hv⟩ hI ⟨[],by simp⟩;exact⟨hI,.tup this.1 this.2⟩
 | _=>
  simp only[expT]at h;have h':=h;obtain⟨hI,_⟩:=expA_ok h' h0;exact⟨hI,expA_sound hR h' h0 hx hI ⟨[],by simp⟩⟩
theorem ofJ_rows {ids:List Nat} (hI:IdsOK G ids) (k:Nat):ofJ (ids.map (rowOf G)) k=(ids[k]?).bind G:=by
 simp only[ofJ,List.getElem?_map];cases h:ids[k]? with
 | none=>rfl
 | some id=>
  obtain⟨e,cs,hG⟩:=hI.2 id (List.mem_of_getElem? h);simp[rowOf,hG]
theorem expE_rel (hR:Rel P E w G) {ids:List Nat} (hI:IdsOK G ids):Rel P (expE E ids) w (ofJ (ids.map (rowOf G))):=by
 have hM:=expE_M hR hI;have get:∀ {k b},(expE E ids).φ k=some b→∃id,ids[k]? =some id∧E.φ id=some b:=fun {k b} h=>by
  have h':(ids[k]?).bind E.φ=some b:=h;cases hk:ids[k]? with
  | none=>rw[hk]at h';cases h'
  | some id=>rw[hk]at h';exact⟨id,rfl,h'⟩
 refine⟨fun i j b hi hj=> ?_,fun i b hi=> ?_,fun i b hi=> ?_,fun i o hi ha=> ?_,fun i=> ?_,fun b=> ?_,fun i b hi hF=> ?_,hR.Flt,fun w'' h'=>hR.good w'' (h'.mono fun b _ h=>expE_W hR hI b h)⟩
 ·obtain⟨x,h1,h2⟩:=get hi;obtain⟨y,h3,h4⟩:=get hj;have:=hR.inj _ _ _ h2 h4;subst this;exact(List.getElem?_inj (List.getElem?_eq_some_iff.1 h1).1 hI.1).1 (h1.trans h3.symm)
 ·obtain⟨x,h1,h2⟩:=get hi;obtain⟨o,h3,h4⟩:=hR.dom _ _ h2;exact⟨o,by rw[ofJ_rows hI,h1];exact h3,h4⟩
 ·obtain⟨x,h1,h2⟩:=get hi;exact hR.lt _ _ h2
 ·rw[ofJ_rows hI]at hi;cases hk:ids[i]? with
  | none=>rw[hk]at hi;cases hi
  | some id=>
   rw[hk]at hi;obtain⟨e,cs,hG⟩:=hI.2 id (List.mem_of_getElem? hk);have hi':G id=some o:=hi;rw[hG]at hi';injection hi' with hi';subst hi';rcases hR.obj id _ hG rfl with⟨b,hb,us,h1,h2,h3⟩ | ⟨hN,h1⟩
   ·exact .inl ⟨b,by show(ids[i]?).bind E.φ=some b;rw[hk];exact hb,us,h1,h2,fun i a u ha hu=>(h3 i a u ha hu).M_iff hM⟩
   ·exact .inr ⟨⟨id,hk,hN⟩,h1⟩
 ·rw[ofJ_rows hI];show i<ids.length↔_;constructor
  ·intro h;obtain⟨e,cs,hG⟩:=hI.2 ids[i] (List.getElem_mem h);exact⟨_,by rw[List.getElem?_eq_getElem h];exact hG⟩
  ·rintro⟨o,h⟩;rcases Nat.lt_or_ge i ids.length with h1 | h1
   ·exact h1
   ·rw[List.getElem?_eq_none h1]at h;cases h
 ·constructor
  ·rintro⟨k,id,h1,h2⟩;obtain⟨e,cs,hG⟩:=hI.2 id (List.mem_of_getElem? h1);exact⟨k,_,by show(ids[k]?).bind E.φ=some b;rw[h1];exact h2,by rw[ofJ_rows hI,h1];exact hG,rfl⟩
  ·rintro⟨k,o,h1,h2,h3⟩;obtain⟨x,h4,h5⟩:=get h1;exact⟨k,x,h4,h5⟩
 ·obtain⟨x,h1,h2⟩:=get hi;exact hR.nF _ _ h2 hF
def resV (tmps:Array Value):ResultVar→Sem Value
 | .tmp t=>pure (tmps.getD t undef)
 | .cell x t=>do loadVar t (←asAddr (tmps.getD x undef))
theorem results_eq (fn:Func) (tmps:Array Value):results fn tmps=(do
  let vs←fn.results.mapM (resV tmps)
  pure (if h:vs.size=1 then vs[0]else .tuple vs)):=by
 unfold results;rfl
theorem res1_sound (h:RelAt P N E1 w1 s G a w E) {rv:ResultVar} {v:AV} (hv:res1 P s G rv=some v):
  ∃u,((resV a.tmps rv).run P w=.ok u w)∧VR P E w v u:=by
 cases rv with
 | tmp t=>simp only[res1,Option.some.injEq]at hv;subst hv;exact⟨_,by simp[resV],h.slots t⟩
 | cell x t=>
  simp only[res1]at hv;have hs:=h.slots x;obtain⟨u,h1,h2⟩:=load_sound h.rel hs hv;refine⟨u,?_,h2⟩;unfold evLoad at hv;split at hv
  ·rename_i b k cs hT hr;split at hv
   ·obtain⟨ad,had,_⟩:=rd_sound h.rel hs hr (by have:=(tyI_spec hT).2.2.1;omega);rw[had]at h1;simp only[resV];rw[had];simpa [Instr.loadAt,Instr.sureAddr,asAddr]using h1
   ·cases hv
  ·cases hv
theorem resL_sound (h:RelAt P N E1 w1 s G a w E):∀ {rvs:List ResultVar} {vs:List AV},rvs.mapM (res1 P s G)=some vs→
  ∃us:List Value,(rvs.mapM (resV a.tmps)).run P w=.ok us w∧All2 (VR P E w) vs us
 | [],vs,hv=>by simp at hv;subst hv;exact⟨[],by simp,.nil⟩
 | rv::rvs,vs,hv=>by
  rw[List.mapM_cons]at hv;cases h1:res1 P s G rv with
  | none=>simp[h1]at hv
  | some v=>
   cases h2:rvs.mapM (res1 P s G)with
   | none=>simp[h1,h2]at hv
   | some vs'=>
    simp[h1,h2]at hv;subst hv;obtain⟨u,hu,hvu⟩:=res1_sound h h1;obtain⟨us,hus,hvs⟩:=resL_sound h h2;refine⟨u::us,?_,.cons hvu hvs⟩;rw[List.mapM_cons];simp[Sem.run_bind,hu,hus]
theorem results_sound {fn:Func} (h:RelAt P N E1 w1 s G a w E) {v:AV} (hv:resA P fn s G=some v):∃u,(results fn a.tmps).run P w=.ok u w∧VR P E w v u:=by
 unfold resA at hv;cases hm:fn.results.toList.mapM (res1 P s G)with
 | none=>rw[hm]at hv;cases hv
 | some vs=>
  obtain⟨us,hu,hvs⟩:=resL_sound h hm;have hrun:(fn.results.mapM (resV a.tmps)).run P w=.ok us.toArray w:=by
   rw[Array.mapM_eq_mapM_toList];simp[Sem.run_bind,hu]
  rw[hm]at hv;have hres:(results fn a.tmps).run P w=.ok (if h:us.toArray.size=1 then us.toArray[0]else .tuple us.toArray) w:=by
   rw[results_eq,Sem.run_bind,hrun];rfl
  refine⟨_,hres,?_⟩
  match vs,us,hvs,hv with
  | [x],[u],hvs,hv=>injection hv with hv;subst hv;simp;exact hvs.2 0 _ _ rfl rfl
  | [],[],hvs,hv=>injection hv with hv;subst hv;simp;exact .tup (us:=[]) hvs.1 hvs.2
  | x::y::r,p::q::t,hvs,hv=>injection hv with hv;subst hv;simp;exact .tup (us:=p::q::t) hvs.1 hvs.2
  | [],u::us,hvs,hv=>exact absurd hvs.1 (by simp)
  | [x],[],hvs,hv=>exact absurd hvs.1 (by simp)
  | [x],p::q::t,hvs,hv=>exact absurd hvs.1 (by simp)
  | x::y::r,[],hvs,hv=>exact absurd hvs.1 (by simp)
  | x::y::r,[p],hvs,hv=>exact absurd hvs.1 (by simp)
def argSl (args:List AV):Sl:=fun t=>args.getD t .und
theorem start_slots {fn:Func} {args:List AV} {us:List Value} (hx:All2 (VR P E w) args us) (hN:args.length≤fn.ntmps) (t:Nat):VR P E w (argSl args t) ((us.toArray++Array.replicate (fn.ntmps-us.toArray.size) undef).getD t undef):=by
 have hl:=hx.1;show VR P E w (args.getD t .und) _;rw[Array.getD_eq_getD_getElem?,Array.getElem?_append,List.getD_eq_getElem?_getD];by_cases ht:t<args.length
 ·rw[if_pos (by simp;omega)];simp only[List.getElem?_toArray];have h1:=List.getElem?_eq_getElem ht;have h2:=List.getElem?_eq_getElem (show t<us.length by omega);rw[h1,h2];exact hx.2 t _ _ h1 h2
 ·rw[if_neg (by simp;omega),List.getElem?_eq_none (by omega),Array.getElem?_replicate];split<;>exact .und
theorem callsOK {f:FuncId} {fn:Func} {c:Code} {args:List AV} {r:AV} {J:Js} (hm:P.follows .mixedOrders=true) (hent:∀args w,(callFunc f args).run P w=.ok (.enter f args) w) (hfn:P.funcs[f]? =some fn) (hb:fn.body=some c) (hN:args.length≤fn.ntmps)
  (h:AW P fn.ntmps c (Post P fn r J) (argSl args) (fun _=>none) 0) (hr:okT r=true):CallsOK P f args r J:=by
 refine⟨hr,hent,fun w us F hF hΓ hx=>(callsIn_wide (n:=0)).1 (callsIn_of_wp_marks hfn hb trivial (aw_sound (r:=none) (n:=0) (E1:=En.zero F) (w1:=w) (E:=En.zero F) hm c (.inl rfl) h (fun _ _=>rfl) ⟨start_slots hx hN,?_,Ext.refl _ _,En.Le.refl _ _,.nil,?_⟩ ?_))⟩
 ·exact⟨fun i j b h=>(by cases h),fun i b h=>(by cases h),fun i b h=>(by cases h),fun i o h=>(by cases h),fun i=>⟨fun h=>h.elim,fun⟨_,h⟩=>(by cases h)⟩,fun b=>⟨fun h=>h.elim,fun⟨_,_,h,_⟩=>(by cases h)⟩,fun i b h=>(by cases h),hF,hΓ⟩
 ·have:=hx.1;simp;omega
 ·intro e s' G' nx' a' w' E' hP _ hrel;obtain⟨he,v,ids,h1,h2,h3,rfl⟩:=hP;have key:LeavesInM (FW none) 0 P fn a'.tmps (fun e w'=>∃u E',e=.returned u∧VR P E' w' r u∧Rel P E' w' (ofJ (ids.map (rowOf G')))∧E'.F=F∧Below w.heap.size w w'∧∀i b,E'.φ i=some b→w.heap.size≤b) a'.defers .returning w':=by
   refine RelAt.leaves a'.defers rfl hrel fun a2 w2 hrel ht=> ?_;obtain⟨u,hu,hvu⟩:=results_sound hrel h1;rw[ht]at hu;obtain⟨hI,hvr⟩:=expT_sound hrel.rel h2 hvu;have hbelow:Below w.heap.size w w2:=hrel.ext.below fun b _ h=>h;have hge:∀k b,(expE E' ids).φ k=some b→w.heap.size≤b:=fun k b hk=>by
    have hW:E'.W b:=expE_W hrel.rel hI b ⟨k,by
     have h':(ids[k]?).bind E'.φ=some b:=hk;cases h4:ids[k]? with
     | none=>rw[h4]at h';cases h'
     | some id=>rw[h4]at h';exact⟨id,rfl,h'⟩⟩
    rcases Nat.lt_or_ge b w.heap.size with hlt | hge
    ·exact(hrel.le.W b hlt hW).elim
    ·exact hge
   exact⟨u,hu,u,_,rfl,hvr,expE_rel hrel.rel hI,hrel.le.F,hbelow,hge⟩
  rcases he with rfl | rfl<;>exact key
theorem inlOK {f:FuncId} {fn:Func} {c:Code} {args:List AV} {v:AV} {nx:Nat} (hm:P.follows .mixedOrders=true) (hent:∀args w,(callFunc f args).run P w=.ok (.enter f args) w) (hfn:P.funcs[f]? =some fn) (hb:fn.body=some c) (hN:args.length≤fn.ntmps)
  (hf:FreshFrom G nx) (h:AW P fn.ntmps c (fun e s' G'' _=>(e=.normal∨e=.ret)∧resA P fn s' G''=some v∧G''=G') (argSl args) G nx):InlOK P f args G v G':=by
 refine⟨hent,fun E w us hR hx=>(callsIn_wide (n:=0)).1 (callsIn_of_wp_marks hfn hb trivial (aw_sound (r:=none) (n:=0) (E1:=E) (w1:=w) (E:=E) hm c (.inl rfl) h hf ⟨start_slots hx hN,hR,Ext.refl _ _,En.Le.refl _ _,.nil,?_⟩ ?_))⟩
 ·have:=hx.1;simp;omega
 ·intro e s' G'' nx' a' w' E' hP _ hrel;obtain⟨he,h1,rfl⟩:=hP;have key:LeavesInM (FW none) 0 P fn a'.tmps (fun e w'=>∃u E',e=.returned u∧VR P E' w' v u∧Rel P E' w' G''∧Ext E.W w w'∧En.Le w E E') a'.defers .returning w':=by
   refine RelAt.leaves a'.defers rfl hrel fun a2 w2 hrel ht=> ?_;obtain⟨u,hu,hvu⟩:=results_sound hrel h1;rw[ht]at hu;exact⟨u,hu,u,E',rfl,hvu,hrel.rel,hrel.ext,hrel.le⟩
  rcases he with rfl | rfl<;>exact key
theorem inlK {f:FuncId} {fn:Func} {c:Code} {args:List AV} {nx:Nat} {K:AV→Hp→Nat→Prop} (hm:P.follows .mixedOrders=true) (hent:∀args w,(callFunc f args).run P w=.ok (.enter f args) w) (hfn:P.funcs[f]? =some fn) (hb:fn.body=some c) (hN:args.length≤fn.ntmps)
  (h:FreshFrom G nx→AW P fn.ntmps c (fun e s' G' nx'=>(e=.normal∨e=.ret)∧∃v,resA P fn s' G'=some v∧K v G' nx') (argSl args) G nx):InlK P f args K G nx:=by
 refine⟨hent,fun E w us hR hf hx=>(callsIn_wide (n:=0)).1 (callsIn_of_wp_marks hfn hb trivial (aw_sound (r:=none) (n:=0) (E1:=E) (w1:=w) (E:=E) hm c (.inl rfl) (h hf) hf ⟨start_slots hx hN,hR,Ext.refl _ _,En.Le.refl _ _,.nil,?_⟩ ?_))⟩
 ·have:=hx.1;simp;omega
 ·intro e s' G'' nx' a' w' E' hP hfr hrel;obtain⟨he,v,h1,hk⟩:=hP;have key:LeavesInM (FW none) 0 P fn a'.tmps (Left1 P E w K) a'.defers .returning w':=by
   refine RelAt.leaves a'.defers rfl hrel fun a2 w2 hrel ht=> ?_;obtain⟨u,hu,hvu⟩:=results_sound hrel h1;rw[ht]at hu;exact⟨u,hu,u,v,E',G'',nx',rfl,hvu,hrel.rel,hfr,hrel.ext,hrel.le,hk⟩
  rcases he with rfl | rfl<;>exact key
end
structure Lp where
 s:Sl
 N:Nat
 ps:Array Tmp
 assign:Code
 body:Code
def Lp.o (L:Lp) (st:LoopState) (pd:Option Code):AObj:=.lp st pd L.s L.N L.ps L.assign L.body
def setPs (s:Sl):List Tmp→List AV→Sl
 | t::ts,v::vs=>setPs (s.upd t v) ts vs
 | _,_=>s
@[simp] theorem setPs_nil (s:Sl) (vs:List AV):setPs s [] vs=s:=rfl
@[simp] theorem setPs_cons (s:Sl) (p:Tmp) (ts:List Tmp) (v:AV) (vs:List AV):setPs s (p::ts) (v::vs)=setPs (s.upd p v) ts vs:=rfl
def roundK (L:Lp) (id:Nat) (K:AV→Hp→Nat→Prop):Exit→KS:=fun e _ G nx=>G id=some (L.o .busy none)∧match e with
 | .normal=>K (.v (.bool true)) (G.upd id (L.o .ready none)) nx
 | .ret=>K (.v (.bool false)) (G.upd id (L.o .done (some .ret))) nx
 | .exit i=>K (.v (.bool false)) (G.upd id (L.o .done (some (.exit i)))) nx
 | .goto l=>K (.v (.bool false)) (G.upd id (L.o .done (some (.goto l)))) nx
 | _=>False
def rangeK (L:Lp) (id:Nat) (K:Exit→KS):Exit→KS:=fun e _ G nx=>(e=.normal∨e=.ret)∧
 ((G id=some (L.o .ready none)∧K .normal L.s (G.upd id (L.o .exhausted none)) nx)∨
   (G id=some (L.o .done (some .ret))∧K .ret L.s (G.upd id (L.o .exhausted (some .ret))) nx)∨
   (∃i,G id=some (L.o .done (some (.exit i)))∧K (.exit i) L.s (G.upd id (L.o .exhausted (some (.exit i)))) nx)∨
   (∃l,G id=some (L.o .done (some (.goto l)))∧K (.goto l) L.s (G.upd id (L.o .exhausted (some (.goto l)))) nx))
theorem roundK_normal {L:Lp} {id:Nat} {K:AV→Hp→Nat→Prop} {s:Sl} {G:Hp} {nx:Nat} (h:G id=some (L.o .busy none)) (hk:K (.v (.bool true)) (G.upd id (L.o .ready none)) nx):roundK L id K .normal s G nx:=⟨h,hk⟩
theorem roundK_ret {L:Lp} {id:Nat} {K:AV→Hp→Nat→Prop} {s:Sl} {G:Hp} {nx:Nat} (h:G id=some (L.o .busy none)) (hk:K (.v (.bool false)) (G.upd id (L.o .done (some .ret))) nx):roundK L id K .ret s G nx:=⟨h,hk⟩
theorem roundK_exit {L:Lp} {id i:Nat} {K:AV→Hp→Nat→Prop} {s:Sl} {G:Hp} {nx:Nat} (h:G id=some (L.o .busy none)) (hk:K (.v (.bool false)) (G.upd id (L.o .done (some (.exit i)))) nx):roundK L id K (.exit i) s G nx:=⟨h,hk⟩
theorem rangeK_on {L:Lp} {id:Nat} {K:Exit→KS} {e:Exit} {s:Sl} {G:Hp} {nx:Nat} (he:e=.normal∨e=.ret) (h:G id=some (L.o .ready none)) (hk:K .normal L.s (G.upd id (L.o .exhausted none)) nx):rangeK L id K e s G nx:=⟨he,.inl ⟨h,hk⟩⟩
theorem rangeK_ret {L:Lp} {id:Nat} {K:Exit→KS} {e:Exit} {s:Sl} {G:Hp} {nx:Nat} (he:e=.normal∨e=.ret) (h:G id=some (L.o .done (some .ret))) (hk:K .ret L.s (G.upd id (L.o .exhausted (some .ret))) nx):rangeK L id K e s G nx:=⟨he,.inr (.inl ⟨h,hk⟩)⟩
theorem rangeK_exit {L:Lp} {id i:Nat} {K:Exit→KS} {e:Exit} {s:Sl} {G:Hp} {nx:Nat} (he:e=.normal∨e=.ret) (h:G id=some (L.o .done (some (.exit i)))) (hk:K (.exit i) L.s (G.upd id (L.o .exhausted (some (.exit i)))) nx):rangeK L id K e s G nx:=⟨he,.inr (.inr (.inl ⟨i,h,hk⟩))⟩
section
variable {P:Program} [Gl P] {N:Nat} {E1:En} {w1:World} {s:Sl} {G:Hp} {nx:Nat} {a:Act} {w:World} {E:En}
theorem setPs_rel:∀(ps:List Tmp) (as:List AV) {us:List Value} {s:Sl} {tmps:Array Value},All2 (VR P E w) as us→(∀t∈ps,t<tmps.size)→(∀t,VR P E w (s t) (tmps.getD t undef))→
  (∀t,VR P E w (setPs s ps as t) (((ps.zip us).foldl (fun tmps (t,a)=>tmps.setIfInBounds t a) tmps).getD t undef))∧((ps.zip us).foldl (fun tmps (t,a)=>tmps.setIfInBounds t a) tmps).size=tmps.size
 | [],as,us,s,tmps,h,hp,hs=>by
  cases as<;>exact⟨by simpa [setPs]using hs,by simp⟩
 | p::ps,[],us,s,tmps,h,hp,hs=>by
  have:us=[]:=List.eq_nil_of_length_eq_zero (by simpa using h.1);subst this;exact⟨by simpa [setPs]using hs,by simp⟩
 | p::ps,a::as,us,s,tmps,h,hp,hs=>by
  obtain⟨u,us,rfl,h1,h2⟩:=h.uncons;have hlt:=hp p (by simp);have:=setPs_rel ps as (s:=s.upd p a) (tmps:=tmps.setIfInBounds p u) h2 (fun t ht=>by rw[Array.size_setIfInBounds];exact hp t (by simp[ht])) (fun t=>by
   by_cases ht:t=p
   ·subst ht;rw[Sl.upd_self];have:(tmps.setIfInBounds t u).getD t undef=u:=(by simp[Array.getD_eq_getD_getElem?,hlt]);rw[this];exact h1
   ·rw[Sl.upd_ne _ _ ht];have:(tmps.setIfInBounds p u).getD t undef=tmps.getD t undef:=by
     simp only[Array.getD_eq_getD_getElem?];rw[Array.getElem?_setIfInBounds_ne (fun e=>ht e.symm)]
    rw[this];exact hs t)
  refine⟨this.1,?_⟩;have h3:=this.2;rw[Array.size_setIfInBounds]at h3;exact h3
theorem Lp.obj {L:Lp} {id b:Nat} {st:LoopState} {pd:Option Code} (hR:Rel P E w G) (hG:G id=some (L.o st pd)) (hb:E.φ id=some b):
  ∃r:Loop,w.heap[b]? =some (.loop r)∧r.state=st∧r.pending=pd∧r.params=L.ps∧r.assign=L.assign∧r.body=L.body∧r.tmps.size=L.N∧∀t,VR P E w (L.s t) (r.tmps.getD t undef):=by
 obtain⟨b',hb',fn,tmps,D,h1,h2,h3⟩:=hR.obj' hG rfl (fun e he=>by cases he);rw[hb]at hb';injection hb' with hb';subst hb';exact⟨_,h1,rfl,rfl,rfl,rfl,rfl,h2,h3⟩
theorem Lp.turn {L:Lp} {id b:Nat} {st st':LoopState} {pd pd':Option Code} {r:Loop} (hR:Rel P E w G) (hG:G id=some (L.o st pd)) (hb:E.φ id=some b) (hr:w.heap[b]? =some (.loop r)):
  Rel P E (w.putObj b (.loop {r with state:=st',pending:=pd'})) (G.upd id (L.o st' pd'))∧Ext E.W w (w.putObj b (.loop {r with state:=st',pending:=pd'})):=by
 obtain⟨r',h1,h2,h3,h4,h5,h6,h7,h8⟩:=Lp.obj hR hG hb;rw[hr]at h1;injection h1 with h1;injection h1 with h1;subst h1;exact hR.putLp hb hG hr h4 h5 h6 h7 h8
theorem Lp.id {L:Lp} {E':En} {w':World} {G':Hp} {id b:Nat} {st:LoopState} {pd:Option Code} (hle:En.Le w E E') (hK:E.K id) (hb:E.φ id=some b) (hR:Rel P E' w' G') (hG:G' id=some (L.o st pd)):E'.φ id=some b:=by
 obtain⟨b',hb',_⟩:=hR.obj' hG rfl (fun e he=>by cases he);have:=hle.φ id b' hK hb';rw[hb]at this;injection this with this;rw[this];exact hb'
theorem yldK {L:Lp} {id:Nat} {as:List AV} {K:AV→Hp→Nat→Prop} (hm:P.follows .mixedOrders=true) (hG:G id=some (L.o .ready none)) (hl:as.length=L.ps.size) (hp:∀t∈L.ps.toList,t<L.N) (n1:noRange L.assign=true) (n2:noRange L.body=true)
  (h:FreshFrom G nx→AW P L.N L.assign (fun e s1 G1 nx1=>e=.normal∧G1 id=some (L.o .ready none)∧AW P L.N L.body (roundK L id K) s1 (G1.upd id (L.o .busy none)) nx1) (setPs L.s L.ps.toList as) G nx):YldK P id as K G nx:=by
 intro E w us b hR hf hb hus;obtain⟨r,hr,hst,hpd,h1,h2,h3,h4,h5⟩:=Lp.obj hR hG hb;have hK:E.K id:=(hR.K id).2 ⟨_,hG⟩;have hsz:us.toArray.size=r.params.size:=(by have:=hus.1;simp;rw[h1];omega);refine⟨_,_,_,_,run_yield hr hsz,fun n=> ?_⟩;rw[h2,h3];have hset:=setPs_rel L.ps.toList as (s:=L.s) (tmps:=r.tmps) hus (fun t ht=>by rw[h4];exact hp t ht) h5;have htm:((r.params.zip us.toArray).foldl (fun tmps (t,a)=>tmps.setIfInBounds t a) r.tmps)=((L.ps.toList.zip us).foldl (fun tmps (t,a)=>tmps.setIfInBounds t a) r.tmps):=by
  rw[h1,←Array.foldl_toList,Array.toList_zip]
 rw[htm];refine roundIn_of_wpIn trivial (aw_sound (r:=some b) (n:=n) (E1:=E) (w1:=w) hm L.assign (.inr n1) (h hf) hf ⟨hset.1,hR,Ext.refl _ _,En.Le.refl _ _,.nil,hset.2.trans h4⟩ fun e s1 G1 nx1 a1 w2 E1 hK1 hf1 hrel1=> ?_);obtain⟨rfl,hG1,hbody⟩:=hK1;have hb1:E1.φ id=some b:=Lp.id hrel1.le hK hb hrel1.rel hG1;obtain⟨r1,hr1,hst1,hpd1,_⟩:=Lp.obj hrel1.rel hG1 hb1;obtain⟨hR2,he2⟩:=Lp.turn (st':=.busy) (pd':=none) hrel1.rel hG1 hb1 hr1;have e1:({r1 with state:=.busy} :Loop)= {r1 with state:=.busy,pending:=none} :=(by cases r1;simp_all);refine⟨_,run_beginRound hr1 hst1,?_⟩;rw[e1];have hf2:FreshFrom (G1.upd id (L.o .busy none)) nx1:=fun i hi=>by
  have hne:i≠id:=fun e=>(by have:=hf1 i hi;rw[e,hG1]at this;cases this);rw[Hp.upd_ne _ _ hne];exact hf1 i hi
 refine aw_sound (r:=some b) (n:=n) (E1:=E) (w1:=w) hm L.body (.inr n2) hbody hf2 ⟨fun t=>(hrel1.slots t).ext he2 (En.Le.refl _ _),hR2,hrel1.ext.trans he2 (fun b hb hW=>hrel1.le.W b hb hW),hrel1.le,hrel1.defers.ext he2 (fun _ _ h=>h),hrel1.size⟩ fun e s3 G3 nx3 a3 w3 E3 hK3 hf3 hrel3=> ?_;obtain⟨hG3,hk⟩:=hK3;have hb3:E3.φ id=some b:=Lp.id hrel3.le hK hb hrel3.rel hG3;obtain⟨r3,hr3,hst3,hpd3,_⟩:=Lp.obj hrel3.rel hG3 hb3;have fin:∀(pd:Option Code),K (.v (.bool pd.isNone)) (G3.upd id (L.o (if pd.isNone=true then .ready else .done) pd)) nx3→∃v w',(Instr.endRound b pd).run P w3=.ok v w'∧Left1 P E w K (.returned v) w':=by
  intro pd hk;obtain⟨hR4,he4⟩:=Lp.turn (st':=if pd.isNone=true then .ready else .done) (pd':=pd) hrel3.rel hG3 hb3 hr3;refine⟨_,_,run_endRound pd hr3,_,_,E3,_,nx3,rfl,.tree (.v rfl),hR4,fun i hi=> ?_,hrel3.ext.trans he4 (fun b hb hW=>hrel3.le.W b hb hW),hrel3.le,hk⟩;have hne:i≠id:=fun e=>(by have:=hf3 i hi;rw[e,hG3]at this;cases this);rw[Hp.upd_ne _ _ hne];exact hf3 i hi
 cases e with
 | normal=>exact fin none hk
 | ret=>exact fin (some .ret) hk
 | exit i=>exact fin (some (.exit i)) hk
 | goto l=>exact fin (some (.goto l)) hk
 | panic _=>exact hk.elim
 | outgrown=>exact hk.elim
theorem aw_range {g:Operand} {ps:Array Tmp} {assign body:Code} {K:Exit→KS} {f:FuncId} {caps:List AV} {fn:Func} {c:Code} (hm:P.follows .mixedOrders=true) (hg:evX s g=.fn f caps) (hent:∀args w,(callFunc f args).run P w=.ok (.enter f args) w)
  (hfn:P.funcs[f]? =some fn) (hb:fn.body=some c) (hN:caps.length+1≤fn.ntmps) (hres:fn.results= #[])
  (h:AW P fn.ntmps c (rangeK ⟨s,N,ps,assign,body⟩ nx K) (argSl (.yl nx::caps)) (G.upd nx (Lp.o ⟨s,N,ps,assign,body⟩ .ready none)) (nx+1)):AW P N (.rangeFunc g ps assign body) K s G nx:=by
 intro n E1 w1 a w E Q hrel hf hQ;have hv:=evX_sound hrel.slots g;rw[hg]at hv;obtain⟨us,hu,hl,hus⟩:=hv.fn_inv
 let L:Lp:=⟨s,N,ps,assign,body⟩
 have hD:(w.alloc (.deferred (some []))).heap[w.heap.size]? =some (.deferred (some [])):=World.alloc_heap_new w _;have hbel:Below w.heap.size w (w.alloc (.deferred (some []))):=(Below.refl _ w).alloc (Nat.le_refl _) _;obtain⟨hR1,he1⟩:=hrel.rel.below hbel;refine wpIn_rangeFunc fun fn0 _=> ?_
 let rc:Loop:= {state:=.ready,pending:=none,fn:=fn0,tmps:=a.tmps,params:=ps,assign,body,defers:=w.heap.size}
 have hsz1:(w.alloc (.deferred (some []))).heap.size=w.heap.size+1:=World.size_alloc _ _;have hnx:G nx=none:=hf nx (Nat.le_refl _);have hR2:=hR1.new hnx (L.o .ready none) rfl (.loop rc) (by
  refine⟨fn0,a.tmps,w.heap.size,World.alloc_heap_new _ _,hrel.size,fun t=> ?_⟩;exact((hrel.slots t).ext he1 (En.Le.refl _ _)).ext (Ext.alloc _ _ _) (En.le_add hR1 hnx))
 have hle2:=En.le_add hR1 hnx;have he2:Ext E.W w ((w.alloc (.deferred (some []))).alloc (.loop rc)):=he1.trans (Ext.alloc E.W _ _) (fun _ _ h=>h);rw[hsz1]at hR2 hle2;have hle3:En.Le w E (E.add nx (w.heap.size+1)):=(En.Le.refl w E).trans hle2 (by rw[hsz1];omega);have hf2:FreshFrom (G.upd nx (L.o .ready none)) (nx+1):=fun i hi=>by
  rw[Hp.upd_ne _ _ (by omega)];exact hf i (by omega)
 have hDne:w.heap.size≠w.heap.size+1:=(by omega);have hD2:((w.alloc (.deferred (some []))).alloc (.loop rc)).heap[w.heap.size]? =some (.deferred (some [])):=(Below.heap_alloc _ _ _ (by rw[hsz1];omega)).trans hD;refine⟨w.heap.size+1,[{target:=.collected w.heap.size,args:= #[]}],(w.alloc (.deferred (some []))).alloc (.loop rc),{target:=.fn (.func f) us.toArray,args:= #[.func (.yield (w.heap.size+1)) #[] #[]]},(w.alloc (.deferred (some []))).alloc (.loop rc),f, #[.func (.yield (w.heap.size+1)) #[] #[]]++us.toArray,(w.alloc (.deferred (some []))).alloc (.loop rc),run_enterLoop_outer _ _ _ _ _,?_,fun _ _=>trivial,?_,FW_depth,?_⟩
 ·simp only[resolve,hu];simp[go_sem,Deferred.ofValue]
 ·simp[invoke,hent]
 have hargs:All2 (VR P (E.add nx (w.heap.size+1)) ((w.alloc (.deferred (some []))).alloc (.loop rc))) (.yl nx::caps) (.func (.yield (w.heap.size+1)) #[] #[]::us):=
  .cons (.yl (.inl rfl) rfl fun b hb=>by simp[En.add]at hb;subst hb;rfl) ⟨hl,fun i x u hx hu=>((hus i x u hx hu).ext he2 hle3)⟩
 have eargs: #[Value.func (.yield (w.heap.size+1)) #[] #[]]++us.toArray=(Value.func (.yield (w.heap.size+1)) #[] #[]::us).toArray:=(by simp);rw[eargs];refine callsIn_of_wp_marks hfn hb trivial (aw_sound (r:=none) (n:=n-1) (E1:=E.add nx (w.heap.size+1)) (w1:=(w.alloc (.deferred (some []))).alloc (.loop rc)) (E:=E.add nx (w.heap.size+1)) hm c (.inl rfl) h hf2 ⟨start_slots hargs (by simpa using hN),hR2,Ext.refl _ _,En.Le.refl _ _,.nil,?_⟩ ?_)
 ·have:=hargs.1;simp at this⊢;omega
 ·intro e s' G' nx' a' w' E' hP hfr hrel';obtain⟨he,hP⟩:=hP;have hK2:(E.add nx (w.heap.size+1)).K nx:=.inl rfl;have hb2:(E.add nx (w.heap.size+1)).φ nx=some (w.heap.size+1):=(by simp[En.add]);have key:LeavesInM (FW none) (n-1) P fn a'.tmps (rangePost (FW none) n P (w.heap.size+1) Q {a with defers:=[{target:=.collected w.heap.size,args:= #[]}]++a.defers}) a'.defers .returning w':=by
   refine RelAt.leaves a'.defers rfl hrel' fun a2 w2 hrel2 ht=> ?_;have hres2:(results fn a'.tmps).run P w2=.ok (.tuple #[]) w2:=by
    rw[results_eq,hres];simp
   refine⟨_,hres2,?_⟩;have fin:∀(st:LoopState) (pd:Option Code),st≠ .busy→G' nx=some (L.o st pd)→(∀w4,Rel P E' w4 (G'.upd nx (L.o .exhausted pd))→RelAt P N E1 w1 s (G'.upd nx (L.o .exhausted pd)) {a with defers:=[{target:=.collected w.heap.size,args:= #[]}]++a.defers} w4 E'→
     (match pd with
       | none=>Q .normal {a with defers:=[{target:=.collected w.heap.size,args:= #[]}]++a.defers} w4
       | some c=>c.wpIn (FW none) n P Q {a with defers:=[{target:=.collected w.heap.size,args:= #[]}]++a.defers} w4))→
     rangePost (FW none) n P (w.heap.size+1) Q {a with defers:=[{target:=.collected w.heap.size,args:= #[]}]++a.defers} (.returned (.tuple #[])) w2:=by
    intro st pd hbz hG' hk;have hbb:E'.φ nx=some (w.heap.size+1):=Lp.id hrel2.le hK2 hb2 hrel2.rel hG';obtain⟨r,hr,hst,hpd,_⟩:=Lp.obj hrel2.rel hG' hbb;obtain⟨hR4,he4⟩:=Lp.turn (st':=.exhausted) (pd':=pd) hrel2.rel hG' hbb hr;refine⟨pd,_,by rw[run_endLoop hr (by rw[hst];exact hbz),hpd],?_⟩;have hext:Ext E.W w (w2.putObj (w.heap.size+1) (.loop {r with state:=.exhausted,pending:=pd})):=by
     refine(he2.trans hrel2.ext fun b hb hW=> ?_).trans he4 fun b hb hW=> ?_
     ·rcases hW with hW | hW
      ·omega
      ·exact hW
     ·have h1:(E.add nx (w.heap.size+1)).W b:=hrel2.le.W b (Nat.lt_of_lt_of_le hb he2.size) hW;rcases h1 with h1 | h1
      ·omega
      ·exact h1
    have hle:En.Le w E E':=hle3.trans hrel2.le he2.size;have hW':∀b,E'.W b→b<w.heap.size+2→b=w.heap.size+1∨E.W b:=fun b hW hb=>hrel2.le.W b (by simp;omega) hW;refine hk _ hR4 ⟨fun t=> ?_,hR4,hrel.ext.trans hext (fun b hb hW=>hrel.le.W b hb hW),hrel.le.trans hle hrel.ext.size,⟨?_,fun d hd=> ?_⟩,hrel.size⟩
    ·exact(hrel.slots t).ext hext hle
    ·refine List.nodup_cons.2 ⟨fun hmem=> ?_,hrel.defers.nodup⟩;obtain⟨D,hd,h1,_⟩:=hrel.defers.each _ hmem;injection hd with hd;injection hd with hd;have:=(Array.getElem?_eq_some_iff.1 h1).1;omega
    ·rcases List.mem_cons.1 hd with rfl | hd
     ·have hDW:¬E'.W w.heap.size:=fun hW=>by
       rcases hW' _ hW (by omega)with h | h
       ·omega
       ·exact absurd ((hrel.rel.W _).1 h) fun⟨i,o,h1,_⟩=>by have:=hrel.rel.lt i _ h1;omega
      refine⟨w.heap.size,rfl,?_,hDW,hrel.ext.size⟩;rw[put_heap _ hDne];rw[hrel2.ext.same w.heap.size (by simp;omega) (fun hW=> ?_)]
      ·exact hD2
      ·rcases hW with hW | hW
       ·omega
       ·exact absurd ((hrel.rel.W _).1 hW) fun⟨i,o,h1,_⟩=>by have:=hrel.rel.lt i _ h1;omega
     ·exact(hrel.defers.ext hext (fun b hb hW=>hle.W b hb hW)).each d hd
   have hfr':∀st pd,G' nx=some (L.o st pd)→FreshFrom (G'.upd nx (L.o .exhausted pd)) nx':=fun st pd hG' i hi=>by
    have hne:i≠nx:=fun e=>(by have:=hfr i hi;rw[e,hG']at this;cases this);rw[Hp.upd_ne _ _ hne];exact hfr i hi
   rcases hP with⟨hG',hk⟩ | ⟨hG',hk⟩ | ⟨i,hG',hk⟩ | ⟨i,hG',hk⟩
   ·exact fin _ _ (by decide) hG' fun w4 _ hr4=>hQ _ _ _ _ _ _ _ hk (hfr' _ _ hG') hr4
   ·exact fin _ _ (by decide) hG' fun w4 _ hr4=>wpIn_ret (hQ _ _ _ _ _ _ _ hk (hfr' _ _ hG') hr4)
   ·exact fin _ _ (by decide) hG' fun w4 _ hr4=>wpIn_exit (hQ _ _ _ _ _ _ _ hk (hfr' _ _ hG') hr4)
   ·exact fin _ _ (by decide) hG' fun w4 _ hr4=>wpIn_goto (hQ _ _ _ _ _ _ _ hk (hfr' _ _ hG') hr4)
  rcases he with rfl | rfl<;>exact key
end
section
variable {P:Program} [Gl P] {N:Nat} {K:Exit→KS} {s:Sl} {G:Hp} {nx:Nat}
theorem aw_assoc {a b c:Code} (h:AW P N (.seq a (.seq b c)) K s G nx):AW P N (.seq (.seq a b) c) K s G nx:=by
 have e:AW P N (.seq (.seq a b) c) K=AW P N (.seq a (.seq b c)) K:=by
  show AW P N a _=AW P N a _;congr 1;funext e;cases e<;>rfl
 rw[e];exact h
theorem aw_region0 {id:Nat} {ops:Array Oper} {b:Code} (hr:regP ops=false) (h:∀K':KS,(∀s G nx,AW P N b K s G nx→K' s G nx)→AOps P N ops false ops.toList K' s G nx):AW P N (.seq (.region id ops false) b) K s G nx:=
 ⟨fun h=>(by cases h),by rw[aopsP_of hr];exact h _ fun _ _ _ h=>h⟩
theorem aw_region1 {id:Nat} {ops:Array Oper} {b:Code} (hr:regP ops=false) (hd:okDraw ops=true) (h:∀K':KS,(∀s G nx,AW P N b K s G nx→K' s G nx)→AOps P N ops true ops.toList K' s G nx):AW P N (.seq (.region id ops true) b) K s G nx:=
 ⟨fun _=> .inl hd,by rw[aopsP_of hr];exact h _ fun _ _ _ h=>h⟩
theorem aw_regionL {id:Nat} {ops:Array Oper} {b:Code} (p:Option Tmp) (qs:List Tmp) (hr:regP ops=false) (hd:okDrawL P ops p qs=true) (hS:LateS s p qs) (h:∀K':KS,(∀s G nx,AW P N b K s G nx→K' s G nx)→AOps P N ops true ops.toList K' s G nx):AW P N (.seq (.region id ops true) b) K s G nx:=
 ⟨fun _=> .inr ⟨p,qs,hd,hS⟩,by rw[aopsP_of hr];exact h _ fun _ _ _ h=>h⟩
theorem aw_cond {c:Operand} {a b r:Code} (t:Bool) (hc:evX s c=.v (.bool t)) (h1:t=true→AW P N (.seq a r) K s G nx) (h2:t=false→AW P N (.seq b r) K s G nx):AW P N (.seq (.cond c a b) r) K s G nx:=by
 refine .inl ⟨t,hc,?_⟩;cases t with
 | true=>exact h1 rfl
 | false=>exact h2 rfl
theorem aw_toS {a:Code} (h:AW P N (.seq a .skip) K s G nx):AW P N a K s G nx:=by
 have e:AW P N (.seq a .skip) K=AW P N a K:=by
  show AW P N a _=AW P N a _;congr 1;funext e;cases e<;>rfl
 rw[←e];exact h
theorem aw_skip {r:Code} (h:AW P N r K s G nx):AW P N (.seq .skip r) K s G nx:=h
theorem aA {a b c:Code} (h:AW P N (.seq a (.seq b c)) K s G nx):AW P N (.seq (.seq a b) c) K s G nx:=aw_assoc h
theorem aK {r:Code} (h:AW P N r K s G nx):AW P N (.seq .skip r) K s G nx:=aw_skip h
theorem aR {id:Nat} {ops:Array Oper} {b:Code} (h:∀K':KS,(∀s G nx,AW P N b K s G nx→K' s G nx)→AOps P N ops false ops.toList K' s G nx) (hr:regP ops=false:=by decide+kernel):AW P N (.seq (.region id ops false) b) K s G nx:=aw_region0 hr h
theorem aQ {id:Nat} {ops:Array Oper} {b:Code} (h:∀K':KS,(∀s G nx,AW P N b K s G nx→K' s G nx)→AOps P N ops true ops.toList K' s G nx) (hr:regP ops=false:=by decide+kernel) (hd:okDraw ops=true:=by decide+kernel):AW P N (.seq (.region id ops true) b) K s G nx:=aw_region1 hr hd h
theorem aS {id:Nat} {ops:Array Oper} (h:∀K':KS,(∀s G nx,AW P N .skip K s G nx→K' s G nx)→AOps P N ops false ops.toList K' s G nx) (hr:regP ops=false:=by decide+kernel):AW P N (.region id ops false) K s G nx:=aw_toS (aw_region0 hr h)
theorem aT {id:Nat} {ops:Array Oper} (h:∀K':KS,(∀s G nx,AW P N .skip K s G nx→K' s G nx)→AOps P N ops true ops.toList K' s G nx) (hr:regP ops=false:=by decide+kernel) (hd:okDraw ops=true:=by decide+kernel):AW P N (.region id ops true) K s G nx:=aw_toS (aw_region1 hr hd h)
theorem aw_skipL (h:K .normal s G nx):AW P N .skip K s G nx:=h
theorem aw_ret {r:Code} (h:K .ret s G nx):AW P N (.seq .ret r) K s G nx:=h
theorem aw_retL (h:K .ret s G nx):AW P N .ret K s G nx:=h
theorem aw_exit {id:Nat} {r:Code} (h:K (.exit id) s G nx):AW P N (.seq (.exit id) r) K s G nx:=h
theorem aw_exitL {id:Nat} (h:K (.exit id) s G nx):AW P N (.exit id) K s G nx:=h
def blockK (P:Program) [Gl P] (N:Nat) (id:Nat) (r:Code) (K:Exit→KS):Exit→KS
 | .normal=>AW P N r K
 | .exit id'=>if id'=id then AW P N r K else K (.exit id')
 | e=>K e
theorem aw_block {id:Nat} {a r:Code} (h:AW P N a (blockK P N id r K) s G nx):AW P N (.seq (.block id a) r) K s G nx:=by
 have e:AW P N (.seq (.block id a) r) K=AW P N a (blockK P N id r K):=by
  show AW P N a _=AW P N a _;congr 1;funext e;cases e<;>rfl
 rw[e];exact h
theorem blockK_normal {id:Nat} {r:Code} (h:AW P N r K s G nx):blockK P N id r K .normal s G nx:=h
theorem blockK_exit {id:Nat} {r:Code} (h:AW P N r K s G nx):blockK P N id r K (.exit id) s G nx:=by
 show(if id=id then AW P N r K else _) s G nx;rw[if_pos rfl];exact h
theorem blockK_pass {id id':Nat} {r:Code} (hne:id'≠id) (h:K (.exit id') s G nx):blockK P N id r K (.exit id') s G nx:=by
 show(if id'=id then AW P N r K else K (.exit id')) s G nx;rw[if_neg hne];exact h
theorem blockK_ret {id:Nat} {r:Code} (h:K .ret s G nx):blockK P N id r K .ret s G nx:=h
def loopK (I:KS) (m:Nat) (μ:Sl→Hp→Nat→Nat) (K:Exit→KS):Exit→KS
 | .normal=>fun s G nx=>I s G nx∧μ s G nx<m
 | e=>K e
theorem aw_loop {a:Code} (I:KS) (μ:Sl→Hp→Nat→Nat) (h0:I s G nx) (h:∀s G nx,FreshFrom G nx→I s G nx→AW P N a (loopK I (μ s G nx) μ K) s G nx):AW P N (.loop a) K s G nx:=by
 refine⟨I,μ,h0,fun s G nx hf hI=> ?_⟩;have e:(fun e s' G' nx'=>match e with
   | .normal=>I s' G' nx'∧μ s' G' nx'<μ s G nx
   | e=>K e s' G' nx')=loopK I (μ s G nx) μ K:=by
  funext e;cases e<;>rfl
 have:=h s G nx hf hI;rw[←e]at this;exact this
theorem loopK_normal {I:KS} {m:Nat} {μ:Sl→Hp→Nat→Nat} (h:I s G nx) (hm:μ s G nx<m):loopK I m μ K .normal s G nx:=⟨h,hm⟩
theorem loopK_exit {I:KS} {m id:Nat} {μ:Sl→Hp→Nat→Nat} (h:K (.exit id) s G nx):loopK I m μ K (.exit id) s G nx:=h
theorem loopK_ret {I:KS} {m:Nat} {μ:Sl→Hp→Nat→Nat} (h:K .ret s G nx):loopK I m μ K .ret s G nx:=h
@[simp] theorem upd_app (s:Sl) (i:Nat) (o:AV) (j:Nat):(s.upd i o) j=if j=i then o else s j:=rfl
@[simp] theorem hupd_app (s:Hp) (i:Nat) (o:AObj) (j:Nat):(s.upd i o) j=if j=i then some o else s j:=rfl
@[simp] theorem put_some (s:Sl) (i:Nat) (o:AV):s.put (some i) o=s.upd i o:=rfl
@[simp] theorem put_none (s:Sl) (o:AV):s.put none o=s:=rfl
attribute [simp] AOps AStep wantA callA yldA evC evMin clsOf evX dstOK AV.cells AV.one AV.mk argSl Value.oneCell' treesOf shiftT shiftA shift1 flatT flatV seesA looksA splice goInt
@[simp] theorem conc_v (x:Value):conc (.v x)=some x:=rfl
@[simp] theorem alive_var (t:TypeId) (cs:List AV):(AObj.var t cs).alive=true:=rfl
@[simp] theorem alive_row (t:TypeId) (cs:List AV):(AObj.row t cs).alive=true:=rfl
@[simp] theorem alive_frz (t:TypeId) (cs:List AV):(AObj.frz t cs).alive=true:=rfl
@[simp] theorem alive_map (es:List (Value×AV)):(AObj.map es).alive=true:=rfl
@[simp] theorem alive_dead:AObj.dead.alive=false:=rfl
@[congr] theorem ACall_congr {d:Bool} {f f':FuncId} {as as':List AV} {cls cls':Nat} {K:AV→Hp→Nat→Prop} {G':Hp} {nx':Nat} (h1:f=f') (h2:as=as') (h3:cls=cls') (h4:G=G') (h5:nx=nx'):ACall P d f as cls K G nx=ACall P d f' as' cls' K G' nx':=by
 subst h1;subst h2;subst h3;subst h4;subst h5;rfl
@[simp] theorem thenK_app (K:KS) (s:Sl) (d:Option Tmp) (v:AV) (G:Hp) (nx:Nat):thenK K s d v G nx=K (s.put d v) G nx:=rfl
theorem acall_flat {d:Bool} {f:FuncId} {as ts:List AV} {cls:Nat} {K:AV→Hp→Nat→Prop} {r:AV} (hk:CallsOK P f ts r []) (hf:flatT r=true) (ha:seesA P G as=some ts) (h:K r G nx):ACall P d f as cls K G nx:=
 .inl ⟨_,_,_,ha,hk,⟨(flatT_R hf nx).1,rfl⟩,by rw[(flatT_R hf nx).2,addJ_nil];exact h⟩
theorem acall_keep {d:Bool} {f:FuncId} {as ts:List AV} {cls:Nat} {K:AV→Hp→Nat→Prop} {r:AV} {J:Js} (hk:CallsOK P f ts r J) (hf:flatR r=true∧flatJ J=true) (ha:seesA P G as=some ts) (h:K (shiftT nx r) (addJ G nx J) (nx+J.length)):ACall P d f as cls K G nx:=
 .inl ⟨_,_,_,ha,hk,hf,h⟩
theorem acall_new {d:Bool} {f:FuncId} {as ts:List AV} {cls:Nat} {K:AV→Hp→Nat→Prop} {r:AV} {J:Js} (hk:CallsOK P f ts r J) (ha:(argsOf P G as).map Prod.fst=some ts) (h:K (shiftT nx r) (addJ ((argsOf P G as).elim G Prod.snd) nx J) (nx+J.length)):ACall P d f as cls K G nx:=by
 obtain⟨⟨ts',G1⟩,h1,rfl⟩:=Option.map_eq_some_iff.1 ha;rw[h1]at h;exact .inr (.inl ⟨_,_,_,_,h1,hk,h⟩)
theorem acall_inl {d:Bool} {f:FuncId} {as:List AV} {cls:Nat} {K:AV→Hp→Nat→Prop} {v:AV} {G':Hp} (nx':Nat) (hk:FreshFrom G nx→InlOK P f as G v G') (hg:FreshFrom G nx→(cls=3∨Grows G G')∧FreshFrom G' nx') (h:K v G' nx') (hne:as≠[]∧Gl.inl P f=true:=by exact⟨by simp,rfl⟩):ACall P d f as cls K G nx:=
 .inr (.inr (.inl ⟨hne,v,G',nx',fun hf=>⟨hk hf,hg hf⟩,h⟩))
theorem acall_inlK {f:FuncId} {as:List AV} {cls:Nat} {K:AV→Hp→Nat→Prop} (hk:InlK P f as K G nx):ACall P false f as cls K G nx:=.inr (.inr (.inr ⟨rfl,hk⟩))
theorem fresh_upd {o:AObj} (h:FreshFrom G nx):FreshFrom (G.upd nx o) (nx+1):=fun i hi=>by
 rw[Hp.upd_ne _ _ (by omega)];exact h i (by omega)
theorem fresh_lt (h:FreshFrom G nx) {j:Nat} {o:AObj} (hG:G j=some o):j<nx:=by
 rcases Nat.lt_or_ge j nx with h1 | h1
 ·exact h1
 ·rw[h j h1]at hG;cases hG
@[simp] theorem nilCmp_v (op:BinOp) (t:TypeId) (x:Value) (y:AV):nilCmp P op t (.v x) y=none:=rfl
@[simp] theorem nilCmp_agg (op:BinOp) (t:TypeId) (cs:List AV) (y:AV):nilCmp P op t (.agg cs) y=none:=rfl
@[simp] theorem nilCmp_row (op:BinOp) (t:TypeId) (id n:Nat) (y:AV):nilCmp P op t (.row id n) y=none:=rfl
end
section
variable {P:Program} [Gl P] {N:Nat} {s:Sl} {G:Hp} {nx:Nat}
theorem Left1.mono {E:En} {w:World} {K K':AV→Hp→Nat→Prop} {e:Ending} {w':World} (h:Left1 P E w K e w') (hk:∀v G nx,K v G nx→K' v G nx):Left1 P E w K' e w':=by
 obtain⟨u,v,E',G',nx',h1,h2,h3,h4,h5,h6,h7⟩:=h;exact⟨u,v,E',G',nx',h1,h2,h3,h4,h5,h6,hk _ _ _ h7⟩
theorem InlK.mono {f:FuncId} {as:List AV} {K K':AV→Hp→Nat→Prop} (h:InlK P f as K G nx) (hk:∀v G nx,K v G nx→K' v G nx):InlK P f as K' G nx:=
 ⟨h.1,fun E w us hR hf hx=>(h.2 E w us hR hf hx).mono fun e w' h=>h.mono hk⟩
theorem YldK.mono {id:Nat} {as:List AV} {K K':AV→Hp→Nat→Prop} (h:YldK P id as K G nx) (hk:∀v G nx,K v G nx→K' v G nx):YldK P id as K' G nx:=fun E w us b hR hf hb hx=>by
 obtain⟨fn,tmps,assign,body,h1,h2⟩:=h E w us b hR hf hb hx;exact⟨fn,tmps,assign,body,h1,fun n=>RoundIn.mono (h2 n) fun e w' h=>h.mono hk⟩
theorem ACall.mono {d:Bool} {f:FuncId} {as:List AV} {cls:Nat} {K K':AV→Hp→Nat→Prop} (h:ACall P d f as cls K G nx) (hk:∀v G nx,K v G nx→K' v G nx):ACall P d f as cls K' G nx:=by
 rcases h with⟨ts,r,J,h1,h2,h3,h4⟩ | ⟨ts,G1,r,J,h1,h2,h3⟩ | ⟨hne,v,G',nx',h1,h2⟩ | ⟨h1,h2⟩
 ·exact .inl ⟨ts,r,J,h1,h2,h3,hk _ _ _ h4⟩
 ·exact .inr (.inl ⟨ts,G1,r,J,h1,h2,hk _ _ _ h3⟩)
 ·exact .inr (.inr (.inl ⟨hne,v,G',nx',h1,hk _ _ _ h2⟩))
 ·exact .inr (.inr (.inr ⟨h1,h2.mono hk⟩))
theorem AStep.mono {ops:Array Oper} {d:Bool} {o:Oper} {K K':KS} (h:AStep P N ops d o K s G nx) (hk:∀s G nx,K s G nx→K' s G nx):AStep P N ops d o K' s G nx:=by
 obtain⟨h0,h⟩:=h;refine⟨h0,?_⟩;split at h
 ·split at h
  ·exact h.mono fun v G nx h=>hk _ _ _ h
  ·split at h
   ·exact⟨h.1,h.2.1,h.2.2.mono fun v G nx h=>hk _ _ _ h⟩
   ·split at h
    ·exact hk _ _ _ h
    ·exact h.elim
 ·exact hk _ _ _ h
 ·exact h.elim
theorem AOps.mono {ops:Array Oper} {d:Bool} {K K':KS} (hk:∀s G nx,K s G nx→K' s G nx):∀(os:List Oper) {s:Sl} {G:Hp} {nx:Nat},AOps P N ops d os K s G nx→AOps P N ops d os K' s G nx
 | [],_,_,_,h=>hk _ _ _ h
 | o::os,_,_,_,h=>AStep.mono h fun s G nx h=>AOps.mono hk os h
theorem AStepP.mono {ops:Array Oper} {d:Bool} {o:Oper} {K K':KS} (h:AStepP P N ops d o K s G nx) (hk:∀s G nx,K s G nx→K' s G nx):AStepP P N ops d o K' s G nx:=by
 unfold AStepP at h⊢;split
 ·rename_i hm;rw[if_pos hm]at h;obtain⟨h0,h⟩:=h;refine⟨h0,?_⟩;split at h
  ·split at h
   ·exact hk _ _ _ h
   ·exact h.elim
  ·exact hk _ _ _ h
  ·exact h.elim
 ·rename_i hm;rw[if_neg hm]at h;exact h.mono hk
theorem AOpsP.mono {ops:Array Oper} {d:Bool} {K K':KS} (hk:∀s G nx,K s G nx→K' s G nx):∀(os:List Oper) {s:Sl} {G:Hp} {nx:Nat},AOpsP P N ops d os K s G nx→AOpsP P N ops d os K' s G nx
 | [],_,_,_,h=>hk _ _ _ h
 | o::os,_,_,_,h=>AStepP.mono h fun s G nx h=>AOpsP.mono hk os h
theorem aw_mono:∀(c:Code) {K K':Exit→KS} {s:Sl} {G:Hp} {nx:Nat},(∀e s G nx,K e s G nx→K' e s G nx)→AW P N c K s G nx→AW P N c K' s G nx:=by
 intro c;induction c with
 | skip=>intro K K' s G nx hk h;exact hk _ _ _ _ h
 | label l=>intro K K' s G nx hk h;exact hk _ _ _ _ h
 | exit id=>intro K K' s G nx hk h;exact hk _ _ _ _ h
 | goto l=>intro K K' s G nx hk h;exact hk _ _ _ _ h
 | ret=>intro K K' s G nx hk h;exact hk _ _ _ _ h
 | region id ops d=>intro K K' s G nx hk h;exact⟨h.1,AOpsP.mono (hk .normal) _ h.2⟩
 | seq x y ihx ihy=>
  intro K K' s G nx hk h;refine ihx (fun e s G nx h=> ?_) h;cases e with
  | normal=>exact ihy hk h
  | _=>exact hk _ _ _ _ h
 | cond c x y ihx ihy=>
  intro K K' s G nx hk h;rcases h with⟨t,ht,h⟩ | ⟨ht,h1,h2⟩
  ·refine .inl ⟨t,ht,?_⟩;cases t with
   | true=>exact ihx hk h
   | false=>exact ihy hk h
  ·exact .inr ⟨ht,ihx hk h1,ihy hk h2⟩
 | block id x ih=>
  intro K K' s G nx hk h;refine ih (fun e s G nx h=> ?_) h;cases e with
  | exit id'=>
   simp only at h⊢;split
   ·rename_i hid;rw[if_pos hid]at h;exact hk _ _ _ _ h
   ·rename_i hid;rw[if_neg hid]at h;exact hk _ _ _ _ h
  | _=>exact hk _ _ _ _ h
 | loop x ih=>
  intro K K' s G nx hk h;obtain⟨I,μ,h0,hr⟩:=h;refine⟨I,μ,h0,fun s G nx hf hI=>ih (fun e s' G' nx' h=> ?_) (hr s G nx hf hI)⟩;cases e with
  | normal=>exact h
  | _=>exact hk _ _ _ _ h
 | rangeFunc g ps assign body=>
  intro K K' s G nx hk h;exact fun n E1 w1 a w E Q hrel hf hQ=>h n E1 w1 a w E Q hrel hf fun e s' G' nx' a' w' E' h1 h2 h3=>hQ e s' G' nx' a' w' E' (hk _ _ _ _ h1) h2 h3
 | scope x ih=>
  intro K K' s G nx hk h;refine ih (fun e s G nx h=> ?_) h;cases e with
  | goto l=>exact h.elim
  | _=>exact hk _ _ _ _ h
 | _=>intro K K' s G nx hk h;exact h.elim
theorem aw_cut {a b:Code} {K:Exit→KS} (I:KS) (h1:AW P N a (fun e s' G' nx'=>e=.normal∧I s' G' nx') s G nx) (h2:∀s' G' nx',I s' G' nx'→AW P N b K s' G' nx'):AW P N (.seq a b) K s G nx:=
 aw_mono a (fun e s' G' nx' h=>by obtain⟨rfl,h⟩:=h;exact h2 _ _ _ h) h1
def cutK (I:KS) (K:Exit→KS):Exit→KS:=fun e s G nx=>match e with
 | .normal=>I s G nx
 | e=>K e s G nx
theorem aw_cutR {a b:Code} {K:Exit→KS} (I:KS) (h1:AW P N a (cutK I K) s G nx) (h2:∀s' G' nx',I s' G' nx'→AW P N b K s' G' nx'):AW P N (.seq a b) K s G nx:=
 aw_mono a (fun e s' G' nx' h=>by
  cases e with
  | normal=>exact h2 _ _ _ h
  | _=>exact h) h1
theorem aw_endR {I:KS} {K:Exit→KS} (h:I s G nx):AW P N .skip (cutK I K) s G nx:=h
def scopeK (K:Exit→KS):Exit→KS:=fun e=>match e with
 | .goto _=>fun _ _ _=>False
 | e=>K e
theorem aw_scopeL {a:Code} {K:Exit→KS} (h:AW P N a (scopeK K) s G nx):AW P N (.scope a) K s G nx:=h
theorem aw_label {l:Nat} {r:Code} {K:Exit→KS} (h:AW P N r K s G nx):AW P N (.seq (.label l) r) K s G nx:=h
theorem aw_gen {c:Code} {K:Exit→KS} (I:KS) (h1:I s G nx) (h2:∀s' G' nx',I s' G' nx'→AW P N c K s' G' nx'):AW P N c K s G nx:=h2 _ _ _ h1
theorem aw_end {I:KS} (h:I s G nx):AW P N .skip (fun e s' G' nx'=>e=.normal∧I s' G' nx') s G nx:=⟨rfl,h⟩
end
class Wid {α:Type} (c:α→List AV) (w:outParam Nat):Prop where
 len:∀a,(c a).length=w
 pos:0<w
def flat {α:Type} (c:α→List AV) (l:List α):List AV:=l.flatMap c
def rowT {α:Type} (c:α→List AV) (l:List α):AV:=.sl l.length (flat c l)
def nth {α:Type} [Inhabited α] (l:List α) (i:Nat):α:=l.getD i default
def getC (cs:List AV) (off k:Nat):Option (List AV):=if off+k≤cs.length then some ((cs.drop off).take k)else none
def eaR {α:Type} (c:α→List AV) (w:Nat) (l:List α) (i f:Nat):AV:=.ea (rowT c l) (i*w+f)
def eaO (id n w i f:Nat):AV:=.ea (.row id n) (i*w+f)
def addOff:AV→Nat→Option AV
 | .ptr id o,off=>some (.ptr id (o+off))
 | .ea b o,off=>some (.ea b (o+off))
 | .cp cs o,off=>some (.cp cs (o+off))
 | _,_=>none
section
variable {P:Program} [Gl P] {s:Sl} {G:Hp} {nx:Nat} {α:Type} {c:α→List AV} {w:Nat} {l:List α}
theorem nth_eq [Inhabited α] {i:Nat} (h:i<l.length):nth l i=l[i]:=by simp[nth,List.getD_eq_getElem?_getD,h]
theorem flat_len [Wid c w]:(flat c l).length=l.length*w:=by
 unfold flat;induction l with
 | nil=>simp
 | cons a l ih=>rw[List.flatMap_cons,List.length_append,ih,Wid.len (c:=c),List.length_cons,Nat.add_mul];omega
theorem flat_drop [Inhabited α] [Wid c w] {i f:Nat} (h:i<l.length) (hf:f≤w):∃r,(flat c l).drop (i*w+f)=(c (nth l i)).drop f++r:=by
 unfold flat;induction l generalizing i with
 | nil=>simp at h
 | cons a l ih=>
  rw[List.flatMap_cons];cases i with
  | zero=>
   refine⟨l.flatMap c,?_⟩;rw[Nat.zero_mul,Nat.zero_add,List.drop_append_of_le_length (by rw[Wid.len (c:=c)];exact hf)];rfl
  | succ i=>
   obtain⟨r,hr⟩:=ih (i:=i) (by simpa using h);refine⟨r,?_⟩;rw[List.drop_append,List.drop_eq_nil_of_le (by rw[Wid.len (c:=c),Nat.add_mul];omega),List.nil_append,Wid.len (c:=c)];have:(i+1)*w+f-w=i*w+f:=(by rw[Nat.add_mul];omega);rw[this,hr];rfl
theorem getC_flat [Inhabited α] [Wid c w] {i f k:Nat} (h:i<l.length) (hk:f+k≤w):getC (flat c l) (i*w+f) k=getC (c (nth l i)) f k:=by
 obtain⟨r,hr⟩:=flat_drop (c:=c) h (show f≤w by omega);have hl:((c (nth l i)).drop f).length=w-f:=(by rw[List.length_drop,Wid.len (c:=c)]);have hlt:i*w+w≤l.length*w:=(by rw[←Nat.succ_mul];exact Nat.mul_le_mul_right _ h);unfold getC;rw[if_pos (by rw[flat_len];omega),if_pos (by rw[Wid.len (c:=c)];exact hk),hr,List.take_append_of_le_length (by omega)]
theorem tyI_pos {t:TypeId} {b:Bool} {k:Nat} (h:tyI P t=some (b,k)):0<k:=(tyI_spec h).2.2.1
@[simp] theorem evLoad_ptr (t:TypeId) (id off:Nat):evLoad P G t (.ptr id off)=match tyI P t,G id with
  | some (b,k),some (.var _ cs)=>(getC cs off k).map (AV.mk b)
  | _,_=>none:=by
 unfold evLoad;cases hT:tyI P t with
 | none=>rfl
 | some r=>
  obtain⟨b,k⟩:=r;have:=tyI_pos hT;cases hG:G id with
  | none=>simp[rdAt,hG]
  | some o=>
   cases o<;>simp[rdAt,hG,getC];rename_i cs;by_cases h:off+k≤cs.length
   ·rw[if_pos h,if_pos (by omega)]
   ·rw[if_neg h,if_neg (by omega)]
@[simp] theorem evStore_ptr (t:TypeId) (id off:Nat) (v:AV):evStore P G t (.ptr id off) v=match tyI P t with
  | none=>none
  | some (_,k)=>if v.cells.length=k∧v.cells.all AV.one=true then
    match G id with
    | some (.var t0 cs)=>if off+k≤cs.length then some (G.upd id (.var t0 (splice cs off v.cells)))else none
    | _=>none
   else none:=by
 unfold evStore;cases tyI P t with
 | none=>rfl
 | some q=>rfl
@[simp] theorem evLoad_cp (t:TypeId) (off:Nat) (cs:List AV):evLoad P G t (.cp cs off)=match tyI P t with
  | some (b,k)=>(getC cs off k).map (AV.mk b)
  | none=>none:=by
 unfold evLoad;cases hT:tyI P t with
 | none=>rfl
 | some r=>
  obtain⟨b,k⟩:=r;have:=tyI_pos hT;simp[rdAt,getC];by_cases h:off+k≤cs.length
  ·rw[if_pos h,if_pos (by omega)]
  ·rw[if_neg h,if_neg (by omega)]
@[simp] theorem seeA_v (x:Value):seeA P G (.v x)=some (.v x):=rfl
@[simp] theorem seeA_sl (n:Nat) (cs:List AV):seeA P G (.sl n cs)=some (.sl n cs):=rfl
@[simp] theorem seeA_rowT:seeA P G (rowT c l)=some (rowT c l):=rfl
@[simp] theorem seeA_row (id n:Nat):seeA P G (.row id n)=treeOf P G (.row id n):=rfl
@[simp] theorem seeA_cp (cs:List AV) (off:Nat):seeA P G (.cp cs off)=some (.cp cs off):=rfl
@[simp] theorem seeA_agg (cs:List AV):seeA P G (.agg cs)=(looksA P G cs).map .agg:=rfl
@[simp] theorem seeA_fn (f:Nat) (cs:List AV):seeA P G (.fn f cs)=(looksA P G cs).map (.fn f):=rfl
@[simp] theorem lookA_v (x:Value):lookA P G (.v x)=some (.v x):=rfl
@[simp] theorem lookA_sl (n:Nat) (cs:List AV):lookA P G (.sl n cs)=some (.sl n cs):=rfl
@[simp] theorem lookA_rowT:lookA P G (rowT c l)=some (rowT c l):=rfl
@[simp] theorem lookA_row (id n:Nat):lookA P G (.row id n)=treeOf P G (.row id n):=rfl
@[simp] theorem lookA_cp (cs:List AV) (off:Nat):lookA P G (.cp cs off)=some (.cp cs off):=rfl
@[simp] theorem lookA_ptr (id off:Nat):lookA P G (.ptr id off)=match G id with
  | some (.var _ cs)=>match cs.mapM (fun a=>match a with
    | .v x=>some (.v x)
    | .sl n cs=>some (.sl n cs)
    | _=>none)with
   | some ts=>if 0<ts.length then some (.cp ts off)else none
   | none=>none
  | _=>none:=rfl
@[simp] theorem adr_cp (cs:List AV) (off:Nat):adr G (.cp cs off)=decide (off<cs.length):=by
 unfold adr;simp only[rdAt];by_cases h:off<cs.length
 ·have:(cs.drop off).length≠0:=(by rw[List.length_drop];omega);cases hd:cs.drop off with
  | nil=>rw[hd]at this;simp at this
  | cons a r=>simp[h]
 ·rw[List.drop_eq_nil_of_le (by omega)];simp[h]
theorem evLoad_sl (t:TypeId) (n off:Nat) (cs:List AV):evLoad P G t (.ea (.sl n cs) off)=match tyI P t with
  | some (b,k)=>(getC cs off k).map (AV.mk b)
  | none=>none:=by
 unfold evLoad;cases hT:tyI P t with
 | none=>rfl
 | some r=>
  obtain⟨b,k⟩:=r;have:=tyI_pos hT;simp[rdAt,getC];by_cases h:off+k≤cs.length
  ·rw[if_pos h,if_pos (by omega)]
  ·rw[if_neg h,if_neg (by omega)]
theorem evLoad_row (t:TypeId) (id n off:Nat):evLoad P G t (.ea (.row id n) off)=match tyI P t,G id with
  | some (b,k),some (.row _ cs)=>(getC cs off k).map (AV.mk b)
  | some (b,k),some (.frz _ cs)=>(getC cs off k).map (AV.mk b)
  | some (b,k),some (.var _ cs)=>(getC cs off k).map (AV.mk b)
  | _,_=>none:=by
 unfold evLoad;cases hT:tyI P t with
 | none=>rfl
 | some r=>
  obtain⟨b,k⟩:=r;have:=tyI_pos hT;cases hG:G id with
  | none=>simp[rdAt,hG]
  | some o=>
   cases o<;>simp[rdAt,hG,getC];all_goals
    rename_i cs;by_cases h:off+k≤cs.length
    ·rw[if_pos h,if_pos (by omega)]
    ·rw[if_neg h,if_neg (by omega)]
@[simp] theorem evLoad_eaR [Inhabited α] [Wid c w] (t:TypeId) {i f:Nat} (h:i<l.length):evLoad P G t (eaR c w l i f)=match tyI P t with
  | some (b,k)=>if f+k≤w then(getC (c (nth l i)) f k).map (AV.mk b)else evLoad P G t (eaR c w l i f)
  | none=>none:=by
 cases hT:tyI P t with
 | none=>unfold eaR rowT;rw[evLoad_sl,hT]
 | some r=>
  obtain⟨b,k⟩:=r;simp only;split
  ·rename_i hk;unfold eaR rowT;rw[evLoad_sl,hT];show Option.map (AV.mk b) (getC (flat c l) (i*w+f) k)=_;rw[getC_flat (c:=c) h hk]
  ·rfl
@[simp] theorem lenC_str (t:TypeId) (b:ByteArray):lenC P G t (.v (.string b))=if isStr P t=true then some (.v (.int .i64 b.size))else none:=rfl
@[simp] theorem lenC_nil (t:TypeId):lenC P G t (.v (.slice none 0 0))=match elI P t with
  | some _=>some (.v (.int .i64 0))
  | none=>none:=rfl
@[simp] theorem lenC_sl (t:TypeId) (n:Nat) (cs:List AV):lenC P G t (.sl n cs)=match elI P t with
  | some _=>some (.v (.int .i64 n))
  | none=>none:=rfl
@[simp] theorem lenC_row (t:TypeId) (id n:Nat):lenC P G t (.row id n)=match G id,elI P t with
  | some o,some _=>if o.alive=true then some (.v (.int .i64 n))else none
  | _,_=>none:=by
 simp only[lenC,lenX];cases G id with
 | none=>rfl
 | some o=>cases o<;>cases elI P t<;>rfl
@[simp] theorem treeOf_v (x:Value):treeOf P G (.v x)=some (.v x):=rfl
@[simp] theorem treeOf_sl (n:Nat) (cs:List AV):treeOf P G (.sl n cs)=some (.sl n cs):=rfl
theorem treeOf_row (id n:Nat):treeOf P G (.row id n)=match G id with
  | some (.row e cs)=>if n*P.cellsOf e≤cs.length then some (.sl n (cs.take (n*P.cellsOf e)))else none
  | some (.frz e cs)=>if n*P.cellsOf e≤cs.length then some (.sl n (cs.take (n*P.cellsOf e)))else none
  | _=>none:=rfl
@[simp] theorem argsOf_nil:argsOf P G []=some ([],G):=rfl
@[simp] theorem argsOf_v (x:Value) (r:List AV):argsOf P G (.v x::r)=(argsOf P G r).map fun q=>(.v x::q.1,q.2):=by
 simp only[argsOf,treeOf,frzOf];cases argsOf P G r<;>rfl
@[simp] theorem argsOf_rowT (r:List AV):argsOf P G (rowT c l::r)=(argsOf P G r).map fun q=>(rowT c l::q.1,q.2):=by
 simp only[rowT,argsOf,treeOf,frzOf];cases argsOf P G r<;>rfl
@[simp] theorem argsOf_agg (cs r:List AV):argsOf P G (.agg cs::r)=match treesOf P G cs with
  | some (ts,G1)=>(argsOf P G1 r).map fun q=>(.agg ts::q.1,q.2)
  | none=>none:=by
 simp only[argsOf];cases treesOf P G cs with
 | none=>rfl
 | some q=>obtain⟨ts,G1⟩:=q;simp only;cases argsOf P G1 r<;>rfl
@[simp] theorem argsOf_row (id n:Nat) (r:List AV):argsOf P G (.row id n::r)=match treeOf P G (.row id n)with
  | some t=>(argsOf P (frzOf G (.row id n)) r).map fun q=>(t::q.1,q.2)
  | none=>none:=by
 simp only[argsOf];cases treeOf P G (.row id n)with
 | none=>rfl
 | some t=>simp only;cases argsOf P (frzOf G (.row id n)) r<;>rfl
@[simp] theorem frzOf_v (x:Value):frzOf G (.v x)=G:=rfl
@[simp] theorem frzOf_sl (n:Nat) (cs:List AV):frzOf G (.sl n cs)=G:=rfl
theorem frzOf_row (id n:Nat):frzOf G (.row id n)=match G id with
  | some (.row e (c::cs))=>G.upd id (.frz e (c::cs))
  | _=>G:=rfl
@[simp] theorem lenC_rowT (t:TypeId):lenC P G t (rowT c l)=match elI P t with
  | some _=>some (.v (.int .i64 l.length))
  | none=>none:=rfl
@[simp] theorem one_rowT:AV.one (rowT c l)=true:=rfl
@[simp] theorem cells_rowT:AV.cells (rowT c l)=[rowT c l]:=rfl
@[simp] theorem treeOf_rowT:treeOf P G (rowT c l)=some (rowT c l):=rfl
@[simp] theorem frzOf_rowT:frzOf G (rowT c l)=G:=rfl
@[simp] theorem evIndexAddr_rowT [Wid c w] (t:TypeId) (k:IntKind) {n:Int} (h0:0≤n) (h1:n<l.length):evIndexAddr P G t (rowT c l) (.v (.int k n))=match elI P t with
  | some (_,m,_,_)=>if m=w then some (eaR c w l n.toNat 0)else evIndexAddr P G t (rowT c l) (.v (.int k n))
  | none=>none:=by
 cases hel:elI P t with
 | none=>unfold evIndexAddr;rw[hel]
 | some q=>
  obtain⟨e,m,b,z⟩:=q;simp only;split
  ·rename_i hm;subst hm;unfold evIndexAddr rowT eaR;rw[hel];have:0<(flat c l).length:=by
    rw[flat_len (w:=m)];exact Nat.mul_pos (by omega) (Wid.pos (c:=c))
   simp[h0,h1,this,rowT]
  ·rfl
@[simp] theorem adr_eaR [Wid c w] {i f:Nat} (h:i<l.length) (hf:f<w):adr G (eaR c w l i f)=true:=by
 have hlt:i*w+w≤l.length*w:=(by rw[←Nat.succ_mul];exact Nat.mul_le_mul_right _ h);unfold adr eaR rowT;simp only[rdAt];have hl:((flat c l).drop (i*w+f)).length≠0:=(by rw[List.length_drop,flat_len (w:=w)];omega);cases hd:(flat c l).drop (i*w+f)with
 | nil=>rw[hd]at hl;simp at hl
 | cons a r=>rfl
@[simp] theorem addOff_eaR (i f off:Nat):addOff (eaR c w l i f) off=some (eaR c w l i (f+off)):=by simp[addOff,eaR,Nat.add_assoc]
@[simp] theorem addOff_eaO (id n i f off:Nat):addOff (eaO id n w i f) off=some (eaO id n w i (f+off)):=by simp[addOff,eaO,Nat.add_assoc]
@[simp] theorem addOff_cp (cs:List AV) (o off:Nat):addOff (.cp cs o) off=some (.cp cs (o+off)):=rfl
@[simp] theorem addOff_ptr (id o off:Nat):addOff (.ptr id o) off=some (.ptr id (o+off)):=rfl
theorem evOp_fieldAddr (t:TypeId) (x:Operand) (f:Nat):evOp P s G nx (.fieldAddr t x f)=match flI P t f with
  | some (off,_,_)=>if adr G (evX s x)=true then(addOff (evX s x) off).map fun v=>(v,G,nx)else none
  | none=>none:=by
 simp only[evOp];cases hf:flI P t f with
 | none=>rfl
 | some q=>
  obtain⟨off,b,k⟩:=q;simp only;split
  ·cases evX s x<;>rfl
  ·rfl
@[simp] theorem adr_ptr (id off:Nat):adr G (.ptr id off)=match G id with
  | some (.var _ cs)=>decide (off<cs.length)
  | _=>false:=by
 unfold adr;simp only[rdAt];cases G id with
 | none=>rfl
 | some o=>
  (cases o<;>try rfl);rename_i cs;simp only;by_cases h:off<cs.length
  ·have:(cs.drop off).length≠0:=(by rw[List.length_drop];omega);cases hd:cs.drop off with
   | nil=>rw[hd]at this;simp at this
   | cons a r=>simp[h]
  ·rw[List.drop_eq_nil_of_le (by omega)];simp[h]
end
section
variable {P:Program} [Gl P] {s:Sl} {G:Hp} {nx:Nat}
@[simp] theorem o_move (x:Operand):evOp P s G nx (.move x)=some (evX s x,G,nx):=rfl
@[simp] theorem o_assign (x:Operand):evOp P s G nx (.assign x)=some (evX s x,G,nx):=rfl
@[simp] theorem o_pick (c a b:Operand):evOp P s G nx (.pick c a b)=match evX s c with
  | .v (.bool t)=>some (if t=true then evX s a else evX s b,G,nx)
  | _=>none:=rfl
@[simp] theorem o_alloc (t:TypeId):evOp P s G nx (.alloc t)=match zrI P t with
  | some z=>some (.ptr nx 0,G.upd nx (.var t (z.map .v)),nx+1)
  | none=>none:=rfl
@[simp] theorem o_box (t:TypeId) (x:Operand):evOp P s G nx (.box t x)=if(evX s x).cells.all AV.one=true then some (.ptr nx 0,G.upd nx (.var t (evX s x).cells),nx+1)else none:=rfl
@[simp] theorem o_build (t:TypeId) (ps:Array (Nat×Operand)):evOp P s G nx (.build t ps)=match zrI P t,plI P t with
  | some z,some _=>match evBuild P s t (z.map .v) ps.toList with
   | some cs=>some (.agg cs,G,nx)
   | none=>none
  | _,_=>none:=rfl
@[simp] theorem o_buildSlice (t:TypeId) (n:Nat) (ps:Array (Nat×Operand)):evOp P s G nx (.buildSlice t n ps)=match elI P t with
  | some (e,k,_,_)=>if ps.toList.map (·.1)=List.range n∧n*k≤16777216∧n≤16777216∧ps.toList.all (fun p=>decide ((evX s p.2).cells.length=k)&&(evX s p.2).cells.all AV.one)=true then
    match treesOf P G (ps.toList.flatMap fun p=>(evX s p.2).cells)with
    | some (ts,G')=>some (.row nx n,G'.upd nx (.row e ts),nx+1)
    | none=>if(ps.toList.flatMap fun p=>(evX s p.2).cells).any isFn=true∧0<n*k then some (.row nx n,G.upd nx (.var e (ps.toList.flatMap fun p=>(evX s p.2).cells)),nx+1)else none
   else none
  | none=>none:=rfl
@[simp] theorem o_load (t:TypeId) (a:Operand):evOp P s G nx (.load t a)=(match evGlob P t a with
  | some v=>some v
  | none=>evLoad P G t (evX s a)).map fun v=>(v,G,nx):=rfl
@[simp] theorem evGlob_tmp (t:TypeId) (x:Tmp):evGlob P t (.tmp x)=none:=rfl
@[simp] theorem o_store (t:TypeId) (a v:Operand):evOp P s G nx (.store t a v)=(evStore P G t (evX s a) (evX s v)).map fun G'=>(.any,G',nx):=rfl
@[simp] theorem o_nilCheck (x:Operand):evOp P s G nx (.nilCheck x)=if adr G (evX s x)=true then some (evX s x,G,nx)else match evX s x with
  | .fn f cs=>some (.fn f cs,G,nx)
  | _=>none:=rfl
@[simp] theorem o_binOp (op:BinOp) (t:TypeId) (x y:Operand) (z:TypeId):evOp P s G nx (.binOp op t x y z)=match conc (evX s x),conc (evX s y)with
  | some a,some b=>(evBin P op t a b).map fun r=>(.v r,G,nx)
  | _,_=>none:=rfl
@[simp] theorem o_unOp (op:UnOp) (t:TypeId) (x:Operand):evOp P s G nx (.unOp op t x)=match conc (evX s x)with
  | some a=>(evUn op a).map fun r=>(.v r,G,nx)
  | none=>none:=rfl
attribute [simp] evOp_fieldAddr evBuild evUn
@[simp] theorem o_field (t:TypeId) (x:Operand) (f:Nat):evOp P s G nx (.field t x f)=match flI P t f,evX s x with
  | some (off,b,k),.agg cs=>if off+k≤cs.length then some (.mk b ((cs.drop off).take k),G,nx)else none
  | _,_=>none:=rfl
@[simp] theorem o_indexAddr (t:TypeId) (x i:Operand):evOp P s G nx (.indexAddr t x i)=(evIndexAddr P G t (evX s x) (evX s i)).map fun v=>(v,G,nx):=rfl
@[simp] theorem o_extract (x:Operand) (i:Nat):evOp P s G nx (.extract x i)=match evX s x with
  | .tup vs=>match vs[i]? with
   | some v=>some (v,G,nx)
   | none=>none
  | _=>none:=rfl
@[simp] theorem bin_int (P:Program) (op:BinOp) (t:TypeId) (k:IntKind) (a b:Int):evBin P op t (.int k a) (.int k b)=match op with
   | .add=>some (.int k (k.wrap (a+b)))
   | .sub=>some (.int k (k.wrap (a-b)))
   | .mul=>some (.int k (k.wrap (a*b)))
   | .quo=>if b=0 then none else some (.int k (k.wrap (a.tdiv b)))
   | .rem=>if b=0 then none else some (.int k (a.tmod b))
   | .and=>some (.int k (bits .and k a b))
   | .or=>some (.int k (bits .or k a b))
   | .xor=>some (.int k (bits .xor k a b))
   | .eql=>some (.bool (decide (a=b)))
   | .neq=>some (.bool (!decide (a=b)))
   | .lss=>some (.bool (decide (a<b)))
   | .leq=>some (.bool (decide (a≤b)))
   | .gtr=>some (.bool (decide (a>b)))
   | .geq=>some (.bool (decide (a≥b)))
   | _=>none:=by
 cases op<;>simp[evBin,Bool.beq_eq_decide_eq]<;>first | rfl | (by_cases h:a=b<;>simp[h])
theorem wrap64 {n:Int} (h1: -9223372036854775808≤n) (h2:n<9223372036854775808):IntKind.i64.wrap n=n:=by
 simp[IntKind.wrap,IntKind.bits,IntKind.signed];omega
theorem wrapS {j:Nat} (h:j<9223372036854775807):IntKind.i64.wrap ((j:Int)+1)=((j+1:Nat):Int):=by
 rw[wrap64 (by omega) (by omega)];omega
theorem nth_mem {α:Type} [Inhabited α] {l:List α} {i:Nat} (h:i<l.length):nth l i∈l:=by rw[nth_eq h];exact List.getElem_mem h
theorem ne_nth {α:Type} [Inhabited α] {x y:List α} {i:Nat} (hn:¬nth x i=nth y i):¬x=y:=fun e=>hn (by rw[e])
theorem take_nth {α:Type} [Inhabited α] {x y:List α} {i:Nat} (hi:i<x.length) (hj:i<y.length) (h:x.take i=y.take i) (hn:nth x i=nth y i):x.take (i+1)=y.take (i+1):=by
 rw[List.take_add_one,List.take_add_one,h,List.getElem?_eq_getElem hi,List.getElem?_eq_getElem hj];rw[nth_eq hi,nth_eq hj]at hn;rw[hn]
theorem eq_of_take {α:Type} {x y:List α} {i:Nat} (hl:x.length=y.length) (hi:¬i<x.length) (h:x.take i=y.take i):x=y:=by
 rwa [List.take_of_length_le (by omega),List.take_of_length_le (by omega)]at h
structure Br (t:Bool) (A B:Prop):Prop where
 yes:t=true→A
 no:t=false→B
def BrA (a:AV) (A B:Prop):Prop:=(∃t,a=.v (.bool t)∧Br t A B)∨(a=.bl∧A∧B)
@[simp] theorem BrA_bl (A B:Prop):BrA .bl A B=(A∧B):=by simp[BrA]
@[simp] theorem BrA_v (t:Bool) (A B:Prop):BrA (.v (.bool t)) A B=Br t A B:=by
 simp only[BrA,eq_iff_iff];constructor
 ·rintro(⟨t',h,hb⟩ | ⟨h,_⟩)
  ·injection h with h;injection h with h;rw[h];exact hb
  ·cases h
 ·exact fun h=> .inl ⟨t,rfl,h⟩
theorem aw_condP {N:Nat} {K:Exit→KS} {c:Operand} {a b r:Code} (h:∀A B:Prop,(AW P N (.seq a r) K s G nx→A)→(AW P N (.seq b r) K s G nx→B)→BrA (evX s c) A B):AW P N (.seq (.cond c a b) r) K s G nx:=by
 rcases h _ _ id id with⟨t,h1,h2,h3⟩ | ⟨h1,h2,h3⟩
 ·exact aw_cond t h1 h2 h3
 ·exact .inr ⟨h1,h2,h3⟩
theorem aC {N:Nat} {K:Exit→KS} {c:Operand} {a b r:Code} (h:∀A B:Prop,(AW P N (.seq a r) K s G nx→A)→(AW P N (.seq b r) K s G nx→B)→BrA (evX s c) A B):AW P N (.seq (.cond c a b) r) K s G nx:=aw_condP h
theorem aD {N:Nat} {K:Exit→KS} {c:Operand} {a b:Code} (h:∀A B:Prop,(AW P N (.seq a .skip) K s G nx→A)→(AW P N (.seq b .skip) K s G nx→B)→BrA (evX s c) A B):AW P N (.cond c a b) K s G nx:=aw_toS (aw_condP h)
theorem aX {N:Nat} {K:Exit→KS} {c:Operand} {a b r:Code} (hc:evX s c=.v (.bool true)) (h:AW P N (.seq a r) K s G nx):AW P N (.seq (.cond c a b) r) K s G nx:=aw_cond true hc (fun _=>h) (fun h=>by cases h)
theorem aY {N:Nat} {K:Exit→KS} {c:Operand} {a b r:Code} (hc:evX s c=.v (.bool false)) (h:AW P N (.seq b r) K s G nx):AW P N (.seq (.cond c a b) r) K s G nx:=aw_cond false hc (fun h=>by cases h) (fun _=>h)
theorem aXk {N:Nat} {K:Exit→KS} {c:Operand} {b r:Code} (hc:evX s c=.v (.bool true)) (h:AW P N r K s G nx):AW P N (.seq (.cond c .skip b) r) K s G nx:=aX hc (aw_skip h)
theorem aYk {N:Nat} {K:Exit→KS} {c:Operand} {a r:Code} (hc:evX s c=.v (.bool false)) (h:AW P N r K s G nx):AW P N (.seq (.cond c a .skip) r) K s G nx:=aY hc (aw_skip h)
theorem aU {N:Nat} {K:Exit→KS} {c:Operand} {a b:Code} (hc:evX s c=.v (.bool true)) (h:AW P N (.seq a .skip) K s G nx):AW P N (.cond c a b) K s G nx:=aw_toS (aX hc h)
theorem aV {N:Nat} {K:Exit→KS} {c:Operand} {a b:Code} (hc:evX s c=.v (.bool false)) (h:AW P N (.seq b .skip) K s G nx):AW P N (.cond c a b) K s G nx:=aw_toS (aY hc h)
theorem aVk {N:Nat} {K:Exit→KS} {c:Operand} {a:Code} (hc:evX s c=.v (.bool false)) (h:AW P N .skip K s G nx):AW P N (.cond c a .skip) K s G nx:=aw_toS (aYk hc h)
end
def getO (cs:List AV) (w i f k:Nat):Option (List AV):=getC cs (i*w+f) k
def putO (cs:List AV) (w i f:Nat) (ts:List AV):List AV:=splice cs (i*w+f) ts
def fitO (cs:List AV) (w i f k:Nat):Bool:=decide (i*w+f+k≤cs.length)
section
variable {P:Program} [Gl P] {s:Sl} {G:Hp} {nx:Nat} {α:Type} {c:α→List AV} {w:Nat} {l:List α}
@[simp] theorem getO_flat [Inhabited α] [Wid c w] {i f k:Nat} (h:i<l.length) (hk:f+k≤w):getO (flat c l) w i f k=getC (c (nth l i)) f k:=getC_flat h hk
@[simp] theorem fitO_flat [Wid c w] {i f k:Nat} (h:i<l.length) (hk:f+k≤w):fitO (flat c l) w i f k=true:=by
 have hlt:i*w+w≤l.length*w:=(by rw[←Nat.succ_mul];exact Nat.mul_le_mul_right _ h);simp only[fitO,flat_len (c:=c) (w:=w),decide_eq_true_eq];omega
theorem putO_flat [Wid c w] {i:Nat} (h:i<l.length) (a:α):putO (flat c l) w i 0 (c a)=flat c (l.set i a):=by
 unfold putO splice flat;have hw:(c a).length=w:=Wid.len a;rw[hw,Nat.add_zero];induction l generalizing i with
 | nil=>simp at h
 | cons b l ih=>
  have hb:(c b).length=w:=Wid.len b;cases i with
  | zero=>simp[hb]
  | succ i=>
   have ih:=ih (i:=i) (by simpa using h);rw[List.flatMap_cons,List.set_cons_succ,List.flatMap_cons,←ih];have e1:(i+1)*w=w+i*w:=(by rw[Nat.add_mul];omega);rw[e1,List.take_append,List.drop_append,hb];rw[List.take_of_length_le (by omega),List.drop_eq_nil_of_le (by omega)];have e2:w+i*w-w=i*w:=(by omega);have e3:w+i*w+w-w=i*w+w:=(by omega);rw[e2,e3];simp
theorem putO_same [Inhabited α] [Wid c w] {i:Nat} (h:i<l.length):putO (flat c l) w i 0 (c (nth l i))=flat c l:=by
 rw[putO_flat h];congr 1;rw[nth_eq h];simp
@[simp] theorem evIndexAddr_row (t:TypeId) (k:IntKind) {id m:Nat} {n:Int} (h0:0≤n) (h1:n<m):evIndexAddr P G t (.row id m) (.v (.int k n))=match elI P t,G id with
  | some (_,w,_,_),some o=>if o.alive=true then some (eaO id m w n.toNat 0)else none
  | _,_=>none:=by
 unfold evIndexAddr;cases elI P t with
 | none=>rfl
 | some q=>
  obtain⟨e,w,b,z⟩:=q;cases hG:G id with
  | none=>simp[hG]
  | some o=>cases h:o.alive<;>simp[hG,h,h0,h1,eaO]
@[simp] theorem evLoad_eaO (t:TypeId) (id n w i f:Nat):evLoad P G t (eaO id n w i f)=match tyI P t,G id with
  | some (b,k),some (.row _ cs)=>(getO cs w i f k).map (AV.mk b)
  | some (b,k),some (.frz _ cs)=>(getO cs w i f k).map (AV.mk b)
  | some (b,k),some (.var _ cs)=>(getO cs w i f k).map (AV.mk b)
  | _,_=>none:=evLoad_row ..
@[simp] theorem evStore_eaO (t:TypeId) (id n w i f:Nat) (v:AV):evStore P G t (eaO id n w i f) v=match tyI P t with
  | none=>none
  | some (_,k)=>if v.cells.length=k∧v.cells.all AV.one=true then
    match treesOf P G v.cells with
    | some (ts,G')=>match G' id with
     | some (.row e cs)=>if fitO cs w i f k=true then some (G'.upd id (.row e (putO cs w i f ts)))else none
     | _=>none
    | none=>none
   else none:=by
 unfold evStore eaO fitO putO;cases tyI P t with
 | none=>rfl
 | some q=>
  simp only[decide_eq_true_eq];rfl
@[simp] theorem adr_eaO [Wid c w] {id n i f:Nat} {e:TypeId} (hG:G id=some (.row e (flat c l))) (h:i<l.length) (hf:f<w):adr G (eaO id n w i f)=true:=by
 have hlt:i*w+w≤l.length*w:=(by rw[←Nat.succ_mul];exact Nat.mul_le_mul_right _ h);unfold adr eaO;simp only[rdAt,hG];have hl:((flat c l).drop (i*w+f)).length≠0:=(by rw[List.length_drop,flat_len (w:=w)];omega);cases hd:(flat c l).drop (i*w+f)with
 | nil=>rw[hd]at hl;simp at hl
 | cons a r=>rfl
@[simp] theorem srcOf_rowT:srcOf P G (rowT c l)=some (l.length,flat c l):=rfl
@[simp] theorem srcOf_nil:srcOf P G (.v (.slice none 0 0))=some (0,[]):=rfl
theorem srcOf_row (id n:Nat):srcOf P G (.row id n)=match treeOf P G (.row id n)with
  | some (.sl m ms)=>some (m,ms)
  | _=>none:=rfl
@[simp] theorem flat_nil:flat c ([]:List α)=[]:=rfl
theorem flat_snoc (a:α):flat c l++c a=flat c (l++[a]):=by simp[flat]
theorem flat_app (l':List α):flat c l++flat c l'=flat c (l++l'):=by simp[flat]
@[simp] theorem flat_take [Wid c w] {n:Nat} (hn:n=l.length):(flat c l).take (n*w)=flat c l:=by
 subst hn;rw[List.take_of_length_le (by rw[flat_len (w:=w)];omega)]
@[simp] theorem flat_len' [Wid c w]:(flat c l).length=l.length*w:=flat_len
theorem flat_one (a:α):c a=flat c [a]:=by simp[flat]
@[simp] theorem nilCmp_rowT [Wid c w] (op:BinOp) (t:TypeId):nilCmp P op t (rowT c l) (.v (.slice none 0 0))=match elI P t,op with
  | some _,.eql=>some (if l=[]then .bl else .v (.bool false))
  | some _,.neq=>some (if l=[]then .bl else .v (.bool true))
  | _,_=>none:=by
 have:((flat c l).isEmpty=true)↔l=[]:=by
  rw[List.isEmpty_iff];constructor
  ·intro h;have h1:=flat_len (c:=c) (w:=w) (l:=l);rw[h]at h1;have h2:=Wid.pos (c:=c);cases l with
   | nil=>rfl
   | cons a r=>simp only[List.length_nil,List.length_cons,Nat.add_mul]at h1;omega
  ·rintro rfl;rfl
 unfold nilCmp rowT;simp only[this];cases elI P t<;>cases op<;>rfl
theorem treeOf_own [Wid c w] {id:Nat} {e:TypeId} (hG:G id=some (.row e (flat c l))∨G id=some (.frz e (flat c l))) (he:P.cellsOf e=w):treeOf P G (.row id l.length)=some (rowT c l):=by
 rw[treeOf_row];rcases hG with hG | hG<;>rw[hG]<;>simp only[he,flat_len (c:=c) (w:=w),Nat.le_refl,if_true]<;>rw[List.take_of_length_le (by rw[flat_len (w:=w)];omega)]<;>rfl
@[simp] theorem flat_take1 [Wid c 1]:(flat c l).take l.length=flat c l:=List.take_of_length_le (by rw[flat_len (w:=1)];omega)
@[simp] theorem sl_flat:AV.sl l.length (flat c l)=rowT c l:=rfl
@[simp] theorem treeOf_upd [Wid c w] {id n:Nat} {e:TypeId} (he:P.cellsOf e=w) (hn:n=l.length):treeOf P (G.upd id (.row e (flat c l))) (.row id n)=some (rowT c l):=by
 subst hn;exact treeOf_own (.inl (Hp.upd_self _ _ _)) he
@[simp] theorem frzOf_ne {j id n:Nat} (h:¬j=id):frzOf G (.row id n) j=G j:=by
 rw[frzOf_row];split
 ·exact Hp.upd_ne _ _ h
 ·rfl
end
attribute [simp] evAppend baseOf killId
def Wk (P:Program) (a b:AV):Prop:=∀(F:Nat→Prop) (w:World) (u:Value),VR P (En.zero F) w a u→VR P (En.zero F) w b u
inductive WkL (P:Program):List AV→List AV→Prop
 | nil:WkL P [] []
 | cons {a b:AV} {as bs:List AV} (h:Wk P a b) (hs:WkL P as bs):WkL P (a::as) (b::bs)
section
variable {P:Program} [Gl P]
theorem Wk.refl (a:AV):Wk P a a:=fun _ _ _ h=>h
theorem WkL.refl:∀(l:List AV),WkL P l l
 | []=> .nil
 | a::l=> .cons (.refl a) (WkL.refl l)
theorem Wk.nil:Wk P (.v (.slice none 0 0)) (.sl 0 []):=fun F w u h=>by
 obtain⟨rfl,_⟩:=h.v_inv;exact .tree (.nil none (Nat.le_refl 0))
theorem Wk.nilRow {α:Type} {c:α→List AV} :Wk P (.v (.slice none 0 0)) (rowT c []):=Wk.nil
theorem WkL.all2 {F:Nat→Prop} {w:World} {as bs:List AV} (h:WkL P as bs):∀ {us:List Value},All2 (VR P (En.zero F) w) as us→All2 (VR P (En.zero F) w) bs us:=by
 induction h with
 | nil=>exact fun h=>h
 | cons h hs ih=>
  intro us hx;obtain⟨u,us,rfl,h1,h2⟩:=hx.uncons;exact .cons (h _ _ _ h1) (ih h2)
theorem Wk.agg {cs ds:List AV} (h:WkL P cs ds):Wk P (.agg cs) (.agg ds):=fun F w u hx=>by
 obtain⟨us,rfl,hl,hv,hone⟩:=hx.agg_inv;have:=h.all2 (⟨hl,hv⟩:All2 _ cs us);exact .agg this.1 this.2 hone
theorem CallsOK.weak {f:FuncId} {as bs:List AV} {r:AV} {J:Js} (h:CallsOK P f bs r J) (hw:WkL P as bs):CallsOK P f as r J:=
 ⟨h.1,h.2.1,fun w us F hF hΓ hx=>h.2.2 w us F hF hΓ (hw.all2 hx)⟩
def WkT (a b:AV):Prop:=∀(M:Nat→Prop) (w:World) (u:Value),TR M w a u→TR M w b u
inductive WkTL:List AV→List AV→Prop
 | nil:WkTL [] []
 | cons {a b:AV} {as bs:List AV} (h:WkT a b) (hs:WkTL as bs):WkTL (a::as) (b::bs)
theorem WkT.refl (a:AV):WkT a a:=fun _ _ _ h=>h
theorem WkTL.refl:∀(l:List AV),WkTL l l
 | []=> .nil
 | a::l=> .cons (.refl a) (WkTL.refl l)
theorem WkT.nil:WkT (.v (.slice none 0 0)) (.sl 0 []):=fun M w u h=>by
 cases h with
 | v h=>exact .nil none (Nat.le_refl 0)
theorem WkTL.at {as bs:List AV} (h:WkTL as bs):as.length=bs.length∧∀(i:Nat) a b,as[i]? =some a→bs[i]? =some b→WkT a b:=by
 induction h with
 | nil=>exact⟨rfl,fun i a b h=>by simp at h⟩
 | cons h hs ih=>
  refine⟨by simp[ih.1],fun i a b ha hb=> ?_⟩;cases i with
  | zero=>simp at ha hb;subst ha;subst hb;exact h
  | succ i=>simp at ha hb;exact ih.2 i a b ha hb
theorem WkT.sl {n:Nat} {cs ds:List AV} (h:WkTL cs ds):WkT (.sl n cs) (.sl n ds):=fun M w u hx=>by
 obtain⟨hl,hat⟩:=h.at;cases hx with
 | nil A hn=>
  cases ds with
  | nil=>exact .nil A hn
  | cons _ _=>simp at hl
 | sl hn h0 hb hlen hc hr=>
  refine .sl hn (by omega) hb (by omega) hc fun i b u hbi hu=> ?_;have hi:i<cs.length:=(by rw[hl];exact(List.getElem?_eq_some_iff.1 hbi).1);exact hat i _ b (List.getElem?_eq_getElem hi) hbi _ _ _ (hr i _ u (List.getElem?_eq_getElem hi) hu)
theorem ofJ1 {e:TypeId} {cs:List AV} {i:Nat} {o:AObj} :ofJ [(e,cs)] i=some o↔i=0∧o=.row e cs:=by
 cases i with
 | zero=>simp[ofJ,eq_comm]
 | succ i=>simp[ofJ]
end
section
variable {P:Program} [Gl P] {s:Sl} {G:Hp} {nx:Nat} {α:Type} {c:α→List AV} {w:Nat} {l:List α}
theorem treeOf_congr {G G':Hp} {id n:Nat} (h:G' id=G id):treeOf P G' (.row id n)=treeOf P G (.row id n):=by
 rw[treeOf_row,treeOf_row,h]
@[simp] theorem treeOf_updne {j id n:Nat} {o:AObj} (h:¬id=j):treeOf P (G.upd j o) (.row id n)=treeOf P G (.row id n):=treeOf_congr (Hp.upd_ne _ _ h)
@[simp] theorem treeOf_frz {id n n':Nat} :treeOf P (frzOf G (.row id n')) (.row id n)=treeOf P G (.row id n):=by
 rw[treeOf_row,treeOf_row,frzOf_row];cases hG:G id with
 | none=>simp[hG]
 | some o=>
  cases o with
  | row e cs=>cases cs<;>simp[hG]
  | _=>simp[hG]
@[simp] theorem treeOf_frzne {j id n n':Nat} (h:¬id=j):treeOf P (frzOf G (.row j n')) (.row id n)=treeOf P G (.row id n):=treeOf_congr (frzOf_ne h)
@[simp] theorem getC_zz (cs:List AV):getC cs 0 0=some []:=by simp[getC]
@[simp] theorem getC_cons0 (a:AV) (cs:List AV) (k:Nat):getC (a::cs) 0 (k+1)=(getC cs 0 k).map (a:: ·):=by
 simp only[getC,List.length_cons,Nat.zero_add,List.drop_zero,List.take_succ_cons];by_cases h:k≤cs.length
 ·rw[if_pos (by omega),if_pos h];rfl
 ·rw[if_neg (by omega),if_neg h];rfl
@[simp] theorem getC_cons (a:AV) (cs:List AV) (n k:Nat):getC (a::cs) (n+1) k=getC cs n k:=by
 simp only[getC,List.length_cons,List.drop_succ_cons];by_cases h:n+k≤cs.length
 ·rw[if_pos (by omega),if_pos h]
 ·rw[if_neg (by omega),if_neg h]
def ltO (cs:List AV) (w i f:Nat):Bool:=decide (i*w+f<cs.length)
@[simp] theorem ltO_flat [Wid c w] {i f:Nat} (h:i<l.length) (hf:f<w):ltO (flat c l) w i f=true:=by
 have hlt:i*w+w≤l.length*w:=(by rw[←Nat.succ_mul];exact Nat.mul_le_mul_right _ h);simp only[ltO,flat_len (c:=c) (w:=w),decide_eq_true_eq];omega
theorem drop_isSome (cs:List AV) (k:Nat):(match cs.drop k with | _::_=>true | _=>false)=decide (k<cs.length):=by
 by_cases h:k<cs.length
 ·have:(cs.drop k).length≠0:=(by rw[List.length_drop];omega);cases hd:cs.drop k with
  | nil=>rw[hd]at this;simp at this
  | cons a r=>simp[h]
 ·rw[List.drop_eq_nil_of_le (by omega)];simp[h]
@[simp] theorem adr_row (id n i f:Nat):adr G (eaO id n w i f)=match G id with
  | some (.row _ cs)=>ltO cs w i f
  | some (.frz _ cs)=>ltO cs w i f
  | some (.var _ cs)=>ltO cs w i f
  | _=>false:=by
 unfold adr eaO ltO;simp only[rdAt];cases G id with
 | none=>rfl
 | some o=>
  (cases o<;>try rfl);all_goals
   rename_i cs;simp only;rw[←drop_isSome];cases cs.drop (i*w+f)<;>rfl
attribute [-simp] adr_eaO
theorem treeOf_of [Wid c w] {id n:Nat} {e:TypeId} (hG:G id=some (.row e (flat c l))) (he:P.cellsOf e=w) (hn:n=l.length):treeOf P G (.row id n)=some (rowT c l):=by
 subst hn;exact treeOf_own (.inl hG) he
theorem treeOf_of' [Wid c w] {id n:Nat} {e:TypeId} (hG:G id=some (.frz e (flat c l))) (he:P.cellsOf e=w) (hn:n=l.length):treeOf P G (.row id n)=some (rowT c l):=by
 subst hn;exact treeOf_own (.inr hG) he
end
def M0:Nat→Prop:=fun _=>False
structure Opens (P:Program) {α:Type} (Q:α→Prop) (c:α→List AV) (t:TypeId):Prop where
 op:∀(H:Type) (enc:TypeId×Value→H) (w:World) (base:Nat) (spare:Nat→Bool) (held:Bool) (fuel:Nat) (cs:List Value) (x:DataW H×List MemPlace),
  DataW.trod enc P w base spare held fuel t cs=some x→∃a:α,Q a∧All2 (TR M0 w) (c a) cs
structure OpensF (P:Program) {α:Type} (Q:α→Prop) (n off:Nat) (c:α→List AV) (fs:List (TypeId×Nat)):Prop where
 op:∀(H:Type) (enc:TypeId×Value→H) (w:World) (base:Nat) (spare:Nat→Bool) (held:Bool) (fuel:Nat) (cs:List Value),cs.length=n→
  (∀p∈fs,∃x,DataW.trod enc P w base spare held fuel p.1 ((cs.drop p.2).take (P.cellsOf p.1))=some x)→∃a:α,Q a∧All2 (TR M0 w) (c a) (cs.drop off)
def fldsOf (P:Program) (t:TypeId):Option (List (TypeId×Nat)):=match P.underlying t with
 | some (.struct fs)=>some (fs.toList.map fun f=>(f.type,f.offset))
 | _=>none
section
variable {P:Program} [Gl P] {α β:Type} {Q:α→Prop} {Q':β→Prop}
theorem All2.one {α β:Type} {R:α→β→Prop} {x:α} {y:β} (h:R x y):All2 R [x] [y]:=.cons h .nil
theorem Opens.map {c:α→List AV} {c':β→List AV} {t:TypeId} (h:Opens P Q c t) (f:α→β) (hQ:∀a,Q a→Q' (f a)) (hf:∀a,c' (f a)=c a):Opens P Q' c' t:=by
 constructor;intro H enc w base spare held fuel cs x hx;obtain⟨a,hq,ha⟩:=h.op _ enc w base spare held fuel cs x hx;exact⟨f a,hQ a hq,by rw[hf];exact ha⟩
theorem opens_int {t:TypeId} {k:IntKind} (ht:P.underlying t=some (.int k)):Opens P (fun n=>(Lit.int k n).wf=true) (fun n:Int=>[.v (.int k n)]) t:=by
 constructor;intro H enc w base spare held fuel cs x hx;obtain⟨b,rfl,_,hw⟩:=DataW.trod_int ht hx;exact⟨b,hw,.one (.v rfl)⟩
theorem opens_string {t:TypeId} (ht:P.underlying t=some .string):Opens P (fun s=>s.size≤maxLen) (fun s:ByteArray=>[.v (.string s)]) t:=by
 constructor;intro H enc w base spare held fuel cs x hx;obtain⟨b,rfl,_,hw⟩:=DataW.trod_string ht hx;exact⟨b,hw,.one (.v rfl)⟩
theorem opens_slice {c:α→List AV} {k:Nat} [Wid c k] {t e:TypeId} (h:Opens P Q c e) (ht:P.underlying t=some (.slice e)) (hk:P.cellsOf e=k):Opens P (fun l=>l.length≤maxLen∧∀a∈l,Q a) (fun l:List α=>[rowT c l]) t:=by
 constructor;intro H enc w base spare held fuel cs x hx;rcases DataW.trod_slice ht hx with⟨rfl,_⟩ | ⟨a,len,cap,elems,rest,n,rfl,rfl,_,hb,hl,hc,hel,hat,_⟩
 ·exact⟨[],⟨by simp,by simp⟩,.one (.nil none (Nat.le_refl 0))⟩
 have key:∀m,m≤len→∃(l:List α) (us:List Value),l.length=m∧(∀a∈l,Q a)∧(∀j u,us[j]? =some u→w.cell? (a.add j)=some u)∧All2 (TR M0 w) (flat c l) us:=by
  intro m;induction m with
  | zero=>exact fun _=>⟨[],[],rfl,by simp,by simp,.nil⟩
  | succ m ih=>
   intro hm;obtain⟨l,us,h1,h2,h3,h4⟩:=ih (by omega);have:=hat m (by omega);rw[List.getElem?_eq_getElem (by omega)]at this;obtain⟨vs,hv1,hv2⟩:=Option.bind_eq_some_iff.1 this;obtain⟨b,hq,hb2⟩:=h.op _ enc w base spare held n vs _ hv2;obtain⟨_,hvl,hvc⟩:=World.cells?_some hv1;have hul:us.length=m*k:=(by have:=h4.1;rw[this,flat_len (w:=k),h1]);refine⟨l++[b],us++vs,by simp[h1],fun x hx=> ?_,fun j u hj=> ?_,?_⟩
   ·rcases List.mem_append.1 hx with hx | hx
    ·exact h2 x hx
    ·simp at hx;subst hx;exact hq
   ·rw[List.getElem?_append]at hj;split at hj
    ·exact h3 j u hj
    ·rename_i hlt;have hj2:j-us.length<vs.length:=(List.getElem?_eq_some_iff.1 hj).1;have:=hvc (j-us.length) (by omega);rw[add_add,hk,←hul,show us.length+(j-us.length)=j by omega]at this;rw[this];exact hj
   ·rw[←flat_app];have e:flat c [b]=c b:=(flat_one b).symm;rw[e];exact h4.app hb2
 obtain⟨l,us,h1,h2,h3,h4⟩:=key len (Nat.le_refl _);refine⟨l,⟨by omega,h2⟩,.one ?_⟩;subst h1;show TR M0 w (.sl l.length (flat c l)) _;by_cases h0:l=[]
 ·subst h0;exact .nil _ (Nat.zero_le _)
 ·have hpos:0<(flat c l).length:=by
   rw[flat_len (w:=k)];exact Nat.mul_pos (List.length_pos_iff.2 h0) (Wid.pos (c:=c))
  exact .sl hl hpos (fun h=>h) h4.1 h3 h4.2
theorem opensF_nil {n:Nat} :OpensF P (fun _=>True) n n (fun _:Unit=>[]) []:=by
 constructor;intro H enc w base spare held fuel cs hn _;refine⟨(),trivial,?_⟩;rw[List.drop_eq_nil_of_le (by omega)];exact .nil
theorem opensF_cons (k:Nat) {c:α→List AV} {c':β→List AV} {t:TypeId} {n off:Nat} {fs:List (TypeId×Nat)} (h:Opens P Q c t) (hs:OpensF P Q' n (off+k) c' fs) (hk:P.cellsOf t=k):
  OpensF P (fun x:α×β=>Q x.1∧Q' x.2) n off (fun x:α×β=>c x.1++c' x.2) ((t,off)::fs):=by
 constructor;intro H enc w base spare held fuel cs hn hall;obtain⟨x,hx⟩:=hall (t,off) (by simp);obtain⟨a,hq,ha⟩:=h.op _ enc w base spare held fuel _ x hx;obtain⟨b,hq',hb⟩:=hs.op _ enc w base spare held fuel cs hn fun p hp=>hall p (by simp[hp]);refine⟨(a,b),⟨hq,hq'⟩,?_⟩;have e:cs.drop off=(cs.drop off).take k++cs.drop (off+k):=by
  rw[←List.drop_drop];exact(List.take_append_drop k _).symm
 rw[e];simp only at ha;rw[hk]at ha;exact ha.app hb
theorem opens_struct {c:α→List AV} {t:TypeId} {n:Nat} {fs:List (TypeId×Nat)} (h:OpensF P Q n 0 c fs) (ht:fldsOf P t=some fs) (hn:P.cellsOf t=n):Opens P Q c t:=by
 constructor;intro H enc w base spare held fuel cs x hx;unfold fldsOf at ht;split at ht
 ·rename_i fa hfa;injection ht with ht;obtain⟨xs,m,rfl,_,hl,hxl,hat⟩:=DataW.trod_struct hfa hx;obtain⟨a,hq,ha⟩:=h.op _ enc w base spare held m cs (by rw[hl,hn]) fun p hp=>by
   rw[←ht]at hp;obtain⟨f,hf,rfl⟩:=List.mem_map.1 hp;obtain⟨i,hi,he⟩:=List.mem_iff_getElem.1 hf;have hi':i<fa.size:=(by simpa using hi);have:=hat i f (by rw[←he];simp[hi']);rw[List.getElem?_eq_getElem (by omega)]at this;exact⟨_,this⟩
  exact⟨a,hq,by simpa using ha⟩
 ·cases ht
theorem vr_one {w:World} {a:AV} {u:Value} (h:TR M0 w a u):VR P (En.zero M0) w a u:=VR.zero h
theorem open_arg {H:Type} {enc:TypeId×Value→H} {w:World} {base b0:Nat} {spare:Nat→Bool} {held:Bool} {r:Reach} {c:α→List AV} {t:TypeId} {v:Value} {d:DataW H} {ps:List MemPlace} (h:Opens P Q c t)
  (hd:DataW.Trod enc P w base spare held t v d ps) (ht:(fldsOf P t).isSome=true) (hv:Value.okWide P w r b0 t v):∃a,Q a∧VR P (En.zero M0) w (.agg (c a)) v:=by
 unfold fldsOf at ht;split at ht
 ·rename_i fa hfa;obtain⟨cs,rfl,_⟩:=WideShapes.okWide_struct hfa hv;obtain⟨fuel,hf⟩:=hd;obtain⟨a,hq,ha⟩:=h.op _ enc w base spare held fuel _ _ hf;refine⟨a,hq,?_⟩;have:=agg_zero (P:=P) ha;simpa [Value.cells]using this
 ·cases ht
theorem open_one {H:Type} {enc:TypeId×Value→H} {w:World} {base:Nat} {spare:Nat→Bool} {held:Bool} {c:α→AV} {t:TypeId} {v:Value} {d:DataW H} {ps:List MemPlace} (h:Opens P Q (fun a=>[c a]) t)
  (hd:DataW.Trod enc P w base spare held t v d ps) (hv:v.cells= #[v]):∃a,Q a∧VR P (En.zero M0) w (c a) v:=by
 obtain⟨fuel,hf⟩:=hd;obtain⟨a,hq,ha⟩:=h.op _ enc w base spare held fuel _ _ hf;rw[hv]at ha;exact⟨a,hq,vr_one (ha.2 0 _ _ rfl rfl)⟩
theorem row_calls {f:FuncId} {as:List AV} {us:List Value} {w:World} {b:Bool} (h:CallsOK P f as (.v (.bool b)) []) (hΓ:∀w',ExtC (fun _=>False) w w'→Gl.ok P w') (ha:All2 (VR P (En.zero M0) w) as us):
  Calls P f us.toArray w fun e w'=>e=.returned (.bool b)∧Below w.heap.size w w':=by
 refine(h.2.2 w us M0 (fun _ h=>h.elim) hΓ ha).mono ?_;rintro e w' ⟨u,E',rfl,hv,_,_,hb,_⟩;obtain⟨rfl,_⟩:=hv.v_inv;exact⟨rfl,hb⟩
end
end Go.Proofs.YtgipehooceecpaaGreatDoorAbs
