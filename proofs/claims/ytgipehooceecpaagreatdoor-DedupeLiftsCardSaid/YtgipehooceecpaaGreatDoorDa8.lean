/- DedupeLifts. -/
import Derived.Test.YtgipehooceecpaaGreatDoorDa7
import Derived.Test.YtgipehooceecpaaGreatDoorDa2
import Derived.Test.YtgipehooceecpaaGreatDoorDa6
namespace Go.Proofs.YtgipehooceecpaaGreatDoorAbs
set_option linter.unusedSimpArgs false
set_option linter.unusedVariables false
open Go Go.RowKit Go.Proofs
set_option maxRecDepth 100000
set_option maxHeartbeats 400000
def gpN (t:List Pl) (n:Nat):Int:=parN t (parN t n).toNat
def twinP (t:List Pl) (n:Nat) (p:Pl):Bool:=decide (p.par=gpN t n∧p.name=(nth t n).name)
def liftCode (t:List Pl) (n:Int):Int:=if checkN t≠0 then checkN t else if¬(1≤n∧n<t.length)then 151 else if parN t n.toNat=0 then 151 else if t.any (twinP t n.toNat)=true then 152 else 0
def liftP (t:List Pl) (n:Nat):Pl:= {nth t n with par:=gpN t n}
def liftT (t:List Pl) (n:Nat):List Pl:=t.set n (liftP t n)
def liftR (t:List Pl) (n:Int):List Pl:=if liftCode t n=0 then liftT t n.toNat else[]
structure Lift (t:List Pl) (n:Nat):Prop where
 good:Good t
 one:1≤n
 lt:n<t.length
 par:1≤parN t n
 two:∀k,k<t.length→parN t k=gpN t n→(nth t k).name=(nth t n).name→False
theorem lift_iff {t:List Pl} {n:Int} :liftCode t n=0↔0≤n∧Lift t n.toNat:=by
 unfold liftCode;constructor
 ·intro h;split at h
  ·rename_i h1;exact absurd h h1
  rename_i h1;split at h
  ·cases h
  rename_i h2;split at h
  ·cases h
  rename_i h3;split at h
  ·cases h
  rename_i h4;have g:=check_iff.1 (Decidable.not_not.1 h1);have h2:=Decidable.not_not.1 h2;have hp:=g.par n.toNat (by omega) (by omega);refine⟨by omega,g,by omega,by omega,by omega,fun k hk e1 e2=>h4 ?_⟩;rw[List.any_eq_true];exact⟨nth t k,nth_mem hk,by simp only[twinP,decide_eq_true_eq];exact⟨e1,e2⟩⟩
 ·rintro⟨h0,h⟩;have hp:=h.par;have hl:=h.lt;have ho:=h.one;rw[if_neg (by rw[check_iff.2 h.good];simp),if_neg (by omega),if_neg (by omega),if_neg];intro h4;obtain⟨p,hp,he⟩:=List.any_eq_true.1 h4;obtain⟨k,hk,rfl⟩:=List.mem_iff_getElem.1 hp;simp only[twinP,decide_eq_true_eq]at he;refine h.two k hk ?_ ?_
  ·rw[←he.1];unfold parN;rw[nth_eq hk]
  ·rw[←he.2,nth_eq hk]
theorem lift_len {t:List Pl} {n:Nat} :(liftT t n).length=t.length:=by simp[liftT]
set_option linter.unusedSectionVars false
section
variable {t:List Pl} {n:Nat} (h:Lift t n)
include h
theorem lift_nth {j:Nat} :nth (liftT t n) j=if j=n then liftP t n else nth t j:=nth_setG h.lt
theorem lift_name {j:Nat} :(nth (liftT t n) j).name=(nth t j).name∧(nth (liftT t n) j).ver=(nth t j).ver:=by
 rw[lift_nth h];split
 ·rename_i e;subst e;exact⟨rfl,rfl⟩
 ·exact⟨rfl,rfl⟩
theorem lift_par {j:Nat} :parN (liftT t n) j=if j=n then gpN t n else parN t j:=by
 unfold parN;rw[lift_nth h];split<;>rfl
theorem gp_lt:0≤gpN t n∧gpN t n<parN t n:=by
 have hl:=h.lt;have p1:=h.good.par n h.one h.lt;have hp:=h.par;have p2:=h.good.par (parN t n).toNat (by omega) (by omega);unfold gpN;omega
theorem lift_root:nth (liftT t n) 0=rootP:=by
 have:=h.one;rw[lift_nth h,if_neg (by omega)];exact h.good.root
theorem lift_pars:∀j,1≤j→j<(liftT t n).length→0≤parN (liftT t n) j∧parN (liftT t n) j<j:=by
 intro j hj hl;rw[lift_len]at hl;rw[lift_par h];split
 ·rename_i e;subst e;have p1:=h.good.par j hj hl;have:=gp_lt h;omega
 ·exact h.good.par j hj hl
theorem lift_dn:Dn (liftT t n):=dn_of (root_par (lift_root h)) (lift_pars h)
theorem lift_up:∀(m:Nat) {j:Nat},j<m→j<t.length→(upN (liftT t n) j).length+(if underF t j n=true then 1 else 0)=(upN t j).length∧∀x∈upN (liftT t n) j,x∈upN t j
 | 0,j,hm,_=>by omega
 | m+1,j,hm,hj=>by
  have hj2:j<(liftT t n).length:=(by rw[lift_len];exact hj);have g:=h.good;have hd:=g.dn j hj;have ih:= @lift_up m;rw[up_step (lift_dn h) hj2,up_step g.dn hj,lift_par h,under_step g.dn hj];by_cases e:j=n
  ·subst e;have p1:=g.par j h.one hj;have hp:=h.par;have hg:=gp_lt h;have hq:(parN t j).toNat<t.length:=(by omega);have a1:¬gpN t j<0:=(by omega);have a2:¬parN t j<0:=(by omega);rw[if_pos rfl,if_neg a1,if_neg a2];have hn:underF t (gpN t j).toNat j=false:=by
    cases hu:underF t (gpN t j).toNat j with
    | false=>rfl
    | true=>have:=under_ge g (by omega) hu;omega
   obtain⟨a,b⟩:=ih (j:=(gpN t j).toNat) (by omega) (by omega);rw[hn]at a;have hs:upN t (parN t j).toNat=(parN t j).toNat::upN t (gpN t j).toNat:=by
    rw[up_step g.dn hq];have:parN t (parN t j).toNat=gpN t j:=rfl;rw[this,if_neg (by omega)]
   rw[hs];refine⟨by simp at a⊢;omega,fun x hx=> ?_⟩;rcases List.mem_cons.1 hx with rfl | hx
   ·simp
   ·have:=b x hx;simp[this]
  ·rw[if_neg e];by_cases h0:parN t j<0
   ·simp[h0];omega
   ·rw[if_neg h0,if_neg h0];obtain⟨a,b⟩:=ih (j:=(parN t j).toNat) (by omega) (by omega);have e':¬(j:Int)=n:=(by omega);refine⟨?_,fun x hx=> ?_⟩
    ·simp[e',h0]at a⊢;omega
    ·rcases List.mem_cons.1 hx with rfl | hx
     ·simp
     ·exact List.mem_cons_of_mem _ (b x hx)
theorem lift_good:Good (liftT t n):=by
 have g:=h.good;refine⟨by rw[lift_len];exact g.le,by rw[lift_len];exact g.pos,lift_root h,lift_pars h,fun j hj hl=> ?_,fun j k hj hjk hl e1 e2=> ?_,fun j hj hl=> ?_⟩
 ·rw[lift_len]at hl;rw[(lift_name h).1,(lift_name h).2];exact g.right j hj hl
 ·rw[lift_len]at hl;rw[(lift_name h).1,(lift_name h).1]at e2;rw[lift_par h,lift_par h]at e1;split at e1
  ·rename_i ej;subst ej;rw[if_neg (by omega)]at e1;exact h.two k hl e1.symm e2.symm
  ·split at e1
   ·rename_i ek;subst ek;exact h.two j (by omega) e1 e2
   ·exact g.uniq j k hj hjk hl e1 e2
 ·rw[lift_len]at hl;have:=(lift_up h _ (Nat.lt_succ_self j) hl).1;have:=g.high j hj hl;omega
end
def mT (t:List Pl):Nat:=((List.range t.length).map fun j=>(upN t j).length).sum
theorem sum_le {f k:Nat→Nat} :∀(l:List Nat),(∀j∈l,f j≤k j)→(l.map f).sum≤(l.map k).sum
 | [],_=>Nat.le_refl _
 | a::l,h=>by
  have:=sum_le l fun j hj=>h j (by simp[hj]);have:=h a (by simp);simp;omega
theorem sum_lt {f k:Nat→Nat} :∀(l:List Nat) {x:Nat},(∀j∈l,f j≤k j)→x∈l→f x<k x→(l.map f).sum<(l.map k).sum
 | [],x,_,hx,_=>by cases hx
 | a::l,x,h,hx,hlt=>by
  have h1:=h a (by simp);rcases List.mem_cons.1 hx with rfl | hx
  ·have:=sum_le l fun j hj=>h j (by simp[hj]);simp;omega
  ·have:=sum_lt l (fun j hj=>h j (by simp[hj])) hx hlt;simp;omega
theorem lift_less {t:List Pl} {n:Nat} (h:Lift t n):mT (liftT t n)<mT t:=by
 unfold mT;rw[lift_len];refine sum_lt _ (fun j hj=> ?_) (List.mem_range.2 h.lt) ?_
 ·have:=(lift_up h _ (Nat.lt_succ_self j) (List.mem_range.1 hj)).1;omega
 ·have:=(lift_up h _ (Nat.lt_succ_self n) h.lt).1;rw[under_self h.good h.lt]at this;simp at this;omega
theorem sum_filter {f:Nat→Nat} (q:Nat→Bool):∀(l:List Nat),((l.filter q).map f).sum=(l.map fun j=>if q j=true then f j else 0).sum
 | []=>rfl
 | a::l=>by
  have:=sum_filter (f:=f) q l;rw[List.filter_cons];cases h:q a<;>simp[this,h]
theorem keep_sum {t:List Pl} {q:Nat→Bool} (g:Good t) (c:Clo t q):mT (keepT t q t.length)=((keptQ q t.length).map fun j=>(upN t j).length).sum:=by
 have hlen:(keepT t q t.length).length=rkQ q t.length:=keep_len;unfold mT;rw[hlen];have e:(List.range (rkQ q t.length)).map (fun x=>(upN (keepT t q t.length) x).length)=(keptQ q t.length).map fun j=>(upN t j).length:=by
  refine List.ext_getElem (by simp[rkQ]) fun x ha hb=> ?_;rw[List.length_map,List.length_range]at ha;obtain⟨j,hj,hu,rfl⟩:=kq_inv _ ha;rw[List.getElem_map,List.getElem_range,List.getElem_map,up_keep g c _ (Nat.lt_succ_self j) hj hu,List.length_map];have h1:=kq_get t.length hj hu;rw[List.getElem?_eq_getElem (by simpa [rkQ]using ha)]at h1;injection h1 with h1;rw[h1]
 rw[e]
theorem keep_less {t:List Pl} {q:Nat→Bool} (g:Good t) (c:Clo t q) {n:Nat} (hn:n<t.length) (hu:q n=false):mT (keepT t q t.length)<mT t:=by
 rw[keep_sum g c];unfold keptQ mT;rw[sum_filter];refine sum_lt _ (fun j _=>by split<;>omega) (List.mem_range.2 hn) ?_;rw[hu];have:=up_pos (t:=t) (i:=n);simp;omega
theorem cut_keep {t:List Pl} {n:Int} (h:cutCode t n=0):cutR t n=keepT t (fun j=> !underF t j n) t.length∧Clo t (fun j=> !underF t j n):=by
 obtain⟨g,h1,h2⟩:=cutCode_inv h;refine⟨by unfold cutR;rw[if_pos h];rfl,by simp[under_root g h1],fun j hj1 hj hu=> ?_⟩;simp only[Bool.not_eq_true']at hu⊢;exact under_par g hj hj1 hu
theorem cut_less {t:List Pl} {n:Int} (h:cutCode t n=0):mT (cutR t n)<mT t:=by
 obtain⟨g,h1,h2⟩:=cutCode_inv h;obtain⟨e,c⟩:=cut_keep h;have hn:((n.toNat:Nat):Int)=n:=(by omega);rw[e];refine keep_less g c (n:=n.toNat) (by omega) ?_;have:=under_self g (j:=n.toNat) (by omega);rw[hn]at this;simp[this]
def cutsV (root:Man) (L:List Man) (t:List Pl) (n:Nat):Bool:=decide (cutCode t n=0)&&validN root L (cutR t n)
def liftsV (root:Man) (L:List Man) (t:List Pl) (n:Nat):Bool:=decide (liftCode t n=0)&&validN root L (liftR t n)
def firstN (k:Nat) (p:Nat→Bool):Option Nat:=(List.range k).find? p
def dedS (root:Man) (L:List Man) (t:List Pl):Option (List Pl):=match firstN t.length (cutsV root L t)with
 | some n=>some (cutR t n)
 | none=>match firstN t.length (liftsV root L t)with
  | some n=>some (liftR t n)
  | none=>none
def dedF (root:Man) (L:List Man):Nat→List Pl→List Pl
 | 0,t=>t
 | k+1,t=>match dedS root L t with
  | none=>t
  | some u=>dedF root L k u
def dedT (root:Man) (L:List Man) (t:List Pl):List Pl:=dedF root L (mT t) t
theorem firstN_some {k:Nat} {p:Nat→Bool} {n:Nat} (h:firstN k p=some n):n<k∧p n=true:=
 ⟨List.mem_range.1 (List.mem_of_find?_eq_some h),List.find?_some h⟩
theorem firstN_none {k:Nat} {p:Nat→Bool} (h:firstN k p=none) {n:Nat} (hn:n<k):p n=false:=by
 have:=List.find?_eq_none.1 h n (List.mem_range.2 hn);simpa using this
theorem dedS_some {root:Man} {L:List Man} {t u:List Pl} (h:dedS root L t=some u):validN root L u=true∧mT u<mT t:=by
 unfold dedS at h;split at h
 ·rename_i n h1;injection h with h;subst h;have:=(firstN_some h1).2;simp only[cutsV,Bool.and_eq_true,decide_eq_true_eq]at this;exact⟨this.2,cut_less this.1⟩
 ·split at h
  ·rename_i n h1;injection h with h;subst h;have:=(firstN_some h1).2;simp only[liftsV,Bool.and_eq_true,decide_eq_true_eq]at this;refine⟨this.2,?_⟩;have hl:=(lift_iff.1 this.1).2;unfold liftR;rw[if_pos this.1];exact lift_less hl
  ·cases h
theorem dedF_more {root:Man} {L:List Man} :∀(k:Nat) {t:List Pl},mT t≤k→dedF root L k t=dedF root L (mT t) t
 | 0,t,h=>by rw[Nat.le_zero.1 h]
 | k+1,t,h=>by
  cases hd:dedS root L t with
  | none=>
   have a:∀m,dedF root L m t=t:=fun m=>by
    cases m with
    | zero=>rfl
    | succ m=>rw[dedF,hd]
   rw[a,a]
  | some u=>
   obtain⟨_,hl⟩:=dedS_some hd;obtain⟨m,hm⟩:∃m,mT t=m+1:=⟨mT t-1,by omega⟩;rw[hm,dedF,hd,dedF,hd];show dedF root L k u=dedF root L m u;rw[dedF_more k (by omega),←dedF_more m (t:=u) (by omega)]
 termination_by k=>k
theorem dedT_some {root:Man} {L:List Man} {t u:List Pl} (h:dedS root L t=some u):dedT root L t=dedT root L u:=by
 obtain⟨_,hl⟩:=dedS_some h;unfold dedT;obtain⟨m,hm⟩:∃m,mT t=m+1:=⟨mT t-1,by omega⟩;rw[hm,dedF,h];exact dedF_more m (by omega)
theorem dedT_none {root:Man} {L:List Man} {t:List Pl} (h:dedS root L t=none):dedT root L t=t:=by
 unfold dedT;cases mT t with
 | zero=>rfl
 | succ m=>rw[dedF,h]
theorem dedT_end {root:Man} {L:List Man} :∀(k:Nat) {t:List Pl},mT t≤k→validN root L t=true→dedS root L (dedT root L t)=none∧validN root L (dedT root L t)=true
 | k,t,h,hv=>by
  cases hd:dedS root L t with
  | none=>rw[dedT_none hd];exact⟨hd,hv⟩
  | some u=>
   obtain⟨h1,h2⟩:=dedS_some hd;rw[dedT_some hd];obtain⟨m,rfl⟩:∃m,k=m+1:=⟨k-1,by omega⟩;exact dedT_end m (by omega) h1
def dedCode (root:Man) (L:List Man) (t:List Pl):Int:=if codeV root L t≠0 then codeV root L t else if wrongL root L t=[]then 0 else 1
def dedR (root:Man) (L:List Man) (t:List Pl):List Pl:=if dedCode root L t=0 then dedT root L t else[]
theorem dedCode_zero {root:Man} {L:List Man} {t:List Pl} :dedCode root L t=0↔validN root L t=true:=by
 unfold dedCode;simp only[validN,Bool.and_eq_true,decide_eq_true_eq];constructor
 ·intro h;split at h
  ·rename_i h1;exact absurd h h1
  ·rename_i h1;split at h
   ·rename_i h2;exact⟨Decidable.not_not.1 h1,h2⟩
   ·cases h
 ·rintro⟨h1,h2⟩;rw[if_neg (by simp[h1]),if_pos h2]
theorem ded_least {root:Man} {L:List Man} {t:List Pl} (h:dedCode root L t=0):(∀n,n<(dedR root L t).length→cutsV root L (dedR root L t) n=false∧liftsV root L (dedR root L t) n=false)∧validN root L (dedR root L t)=true∧dedCode root L (dedR root L t)=0∧dedR root L (dedR root L t)=dedR root L t:=by
 have e:dedR root L t=dedT root L t:=(by unfold dedR;rw[if_pos h]);obtain⟨h1,h2⟩:=dedT_end (root:=root) (L:=L) _ (Nat.le_refl (mT t)) (dedCode_zero.1 h);rw[e];generalize dedT root L t=u at*;have hc:=dedCode_zero.2 h2;refine⟨fun n hn=> ?_,h2,hc,?_⟩
 ·unfold dedS at h1;split at h1
  ·cases h1
  ·rename_i c1;split at h1
   ·cases h1
   ·rename_i c2;exact⟨firstN_none c1 hn,firstN_none c2 hn⟩
 ·unfold dedR;rw[if_pos hc];exact dedT_none h1
set_option maxRecDepth 100000
set_option maxHeartbeats 400000
section
variable {t:List Pl} {n:Nat} (h:Lift t n)
include h
theorem lift_under:∀(m:Nat) {j:Nat},j<m→j<t.length→underF (liftT t n) j n=underF t j n
 | 0,j,hm,_=>by omega
 | m+1,j,hm,hj=>by
  have hj2:j<(liftT t n).length:=(by rw[lift_len];exact hj);have hd:=h.good.dn j hj;rw[under_step (lift_dn h) hj2,under_step h.good.dn hj,lift_par h];by_cases e:j=n
  ·simp[e]
  ·rw[if_neg e];by_cases h0:parN t j<0
   ·simp[h0]
   ·rw[lift_under m (j:=(parN t j).toNat) (by omega) (by omega)]
theorem lift_below:belowL (liftT t n) n=belowL t n:=by
 have hu:=lift_good h;have hn:=h.lt;have e1:holdsF (liftT t n) n=true:=holds_iff.2 ⟨hu,by omega,by rw[lift_len];omega⟩;have e2:holdsF t n=true:=holds_iff.2 ⟨h.good,by omega,by omega⟩;unfold belowL;rw[if_pos e1,if_pos e2,Int.toNat_natCast,lift_len];unfold belowK;refine congrArg _ (List.filter_congr fun j hj=> ?_);rw[lift_under h _ (Nat.lt_succ_self j) (List.mem_range.1 hj)]
theorem lift_path:∀(m:Nat) {j:Nat},j<m→j<t.length→underF t j n=false→pathL (liftT t n) j=pathL t j
 | 0,j,hm,_,_=>by omega
 | m+1,j,hm,hj,hu=>by
  have gu:=lift_good h;have g:=h.good;rcases Nat.eq_zero_or_pos j with rfl | h1
  ·rw[path_zero g,path_zero gu]
  ·have hp:=g.par j h1 hj;have e:¬j=n:=fun e=>(by subst e;rw[under_self g hj]at hu;cases hu);rw[path_step gu h1 (by rw[lift_len];exact hj),path_step g h1 hj,lift_par h,if_neg e,lift_path m (by omega) (by omega) (under_par g hj h1 hu),(lift_name h).1]
theorem lift_paths {j:Nat} (hj:j<t.length):pathOf t j=pathOf (liftT t n) j↔underF t j n=false:=by
 have gu:=lift_good h;have g:=h.good;have hj2:j<(liftT t n).length:=(by rw[lift_len];exact hj);rw[pathOf_eq g hj,pathOf_eq gu hj2];constructor
 ·intro e;have a:=(split_iff (s:=pathS (pathL t j)) (l:=pathL t j)).2 ⟨path_code g hj,rfl⟩;have b:=(split_iff (s:=pathS (pathL t j)) (l:=pathL (liftT t n) j)).2 ⟨path_code gu hj2,e.symm⟩;rw[a]at b;injection b with b;have l1:=path_len g _ (Nat.lt_succ_self j) hj;have l2:=path_len gu _ (Nat.lt_succ_self j) hj2;have l3:=(lift_up h _ (Nat.lt_succ_self j) hj).1;rw[b]at l1;cases hu:underF t j n with
  | false=>rfl
  | true=>rw[hu]at l3;simp at l3;omega
 ·intro hu;rw[lift_path h _ (Nat.lt_succ_self j) hj hu]
end
set_option maxRecDepth 100000
set_option maxHeartbeats 4000000
def twinQ (q p:Pl):Bool:=decide (p.par=q.par∧p.name=q.name)
theorem twin113_ok (p q:Pl):CallsOK Tryz.prog 113 [.agg p.cells,.cp q.cells 0] (bV (twinQ q p)) []:=by
 refine callsOK mixed Tryz.call113 Tryz.func113 rfl (by rw[Tryz.ntmps113];simp) ?_ rfl;rw[Tryz.ntmps113];(repeat with_reducible refine aA ?_);(first | with_reducible refine aR fun K' hK=> ?_ | with_reducible refine aS fun K' hK=> ?_);simp;(first | refine hK _ _ _ ?_ | done);clear K' hK;by_cases h:p.par=q.par
 ·(repeat with_reducible refine aA ?_);(first | with_reducible refine aR fun K' hK=> ?_ | with_reducible refine aS fun K' hK=> ?_);simp[h];(first | refine hK _ _ _ ?_ | done);clear K' hK;(repeat with_reducible refine aA ?_);(first | with_reducible refine aw_ret ?_ | with_reducible refine aw_retL ?_ | with_reducible refine aw_skipL ?_);simp[blockK,loopK,Post,resA,res1,expT,expA,exp1,expM,expL,okT,okA,ok1,rowOf,Tryz.f113,twinQ,h]
 ·(repeat with_reducible refine aA ?_);(first | with_reducible refine aR fun K' hK=> ?_ | with_reducible refine aS fun K' hK=> ?_);simp[h];(first | refine hK _ _ _ ?_ | done);clear K' hK;(repeat with_reducible refine aA ?_);(first | with_reducible refine aw_ret ?_ | with_reducible refine aw_retL ?_ | with_reducible refine aw_skipL ?_);simp[blockK,loopK,Post,resA,res1,expT,expA,exp1,expM,expL,okT,okA,ok1,rowOf,Tryz.f113,twinQ,h]
theorem indexT_ok (t:List Pl) (q:Pl) (hl:t.length<4611686018427387904):CallsOK Tryz.prog 166 [rowT Pl.cells t,.fn 113 [.cp q.cells 0]] (iV (atI (t.findIdx? (twinQ q)))) []:=by
 refine callsOK mixed Tryz.call166 Tryz.func166 rfl (by rw[Tryz.ntmps166];simp) ?_ rfl;rw[Tryz.ntmps166];have tw:∀p,CallsOK Tryz.prog 113 [.agg p.cells,.cp q.cells 0] (bV (twinQ q p)) []:=fun p=>twin113_ok p q;generalize twinQ q=f at*;(repeat with_reducible refine aA ?_);(first | with_reducible refine aR fun K' hK=> ?_ | with_reducible refine aS fun K' hK=> ?_);simp;(first | refine hK _ _ _ ?_ | done);clear K' hK;(repeat with_reducible refine aA ?_);(first | with_reducible refine aR fun K' hK=> ?_ | with_reducible refine aS fun K' hK=> ?_);simp;(first | refine hK _ _ _ ?_ | done);clear K' hK;(repeat with_reducible refine aA ?_);(first | with_reducible refine aw_block ?_ | with_reducible refine aw_toS (aw_block ?_));refine aw_loop (fun s G nx=>s 0=rowT Pl.cells t∧s 1=.fn 113 [.cp q.cells 0]∧s 7=iV t.length∧∃i:Nat,s 8=iV i∧i≤t.length∧∀j,j<i→f (nth t j)=false) (fun s _ _=>match s 8 with | .v (.int _ n)=>t.length-n.toNat | _=>0) ?_ ?_
 ·exact⟨by simp,by simp,by simp,0,by simp,by omega,fun j h=>by omega⟩
 ·rintro s G nx-⟨s0,s1,s7,i,s8,hi,hno⟩;have hw:IntKind.i64.wrap (↑i+1)=((i+1:Nat):Int):=wrapS (by omega);(repeat with_reducible refine aA ?_);(first | with_reducible refine aR fun K' hK=> ?_ | with_reducible refine aS fun K' hK=> ?_);simp[s7,s8];(first | refine hK _ _ _ ?_ | done);clear K' hK;(repeat with_reducible refine aA ?_);(first | with_reducible refine aC fun A B hA hB=> ?_ | with_reducible refine aD fun A B hA hB=> ?_);simp;refine⟨fun hi2=>hA ?_,fun hi2=>hB ?_⟩<;>clear hA hB A B<;>(try simp at hi2)<;>(try with_reducible refine aK ?_)
  ·(repeat with_reducible refine aA ?_);(first | with_reducible refine aw_block ?_ | with_reducible refine aw_toS (aw_block ?_));(repeat with_reducible refine aA ?_);(first | with_reducible refine aR fun K' hK=> ?_ | with_reducible refine aS fun K' hK=> ?_);simp[s8];(first | refine hK _ _ _ ?_ | done);clear K' hK;(repeat with_reducible refine aA ?_);(first | with_reducible refine aR fun K' hK=> ?_ | with_reducible refine aS fun K' hK=> ?_);simp[s0,s1,hi2];refine acall_flat (tw (nth t i)) rfl (by first | rfl | (simp;done) | (simp;rfl) | (simp;exact⟨rfl,rfl⟩)) ?_;simp;(first | refine hK _ _ _ ?_ | done);clear K' hK;(repeat with_reducible refine aA ?_);(first | with_reducible refine aC fun A B hA hB=> ?_ | with_reducible refine aD fun A B hA hB=> ?_);simp;refine⟨fun hc=>hA ?_,fun hc=>hB ?_⟩<;>clear hA hB A B<;>(try simp at hc)<;>(try with_reducible refine aK ?_)
   ·(repeat with_reducible refine aA ?_);(first | with_reducible refine aR fun K' hK=> ?_ | with_reducible refine aS fun K' hK=> ?_);simp;(first | refine hK _ _ _ ?_ | done);clear K' hK;(repeat with_reducible refine aA ?_);(first | with_reducible refine aw_ret ?_ | with_reducible refine aw_retL ?_ | with_reducible refine aw_skipL ?_);simp[blockK,loopK,Post,resA,res1,expT,expA,exp1,expM,expL,okT,okA,ok1,rowOf,Tryz.f166];have:t.findIdx? f=some i:=by
     rw[List.findIdx?_eq_some_iff_getElem];refine⟨hi2,by rw[←nth_eq hi2];exact hc,fun j hj=> ?_⟩;rw[←nth_eq (by omega)];simpa using hno j hj
    simp[this,atI]
   ·(first | with_reducible refine aw_skipL ?_ | skip);refine blockK_normal ?_;(repeat with_reducible refine aA ?_);(first | with_reducible refine aR fun K' hK=> ?_ | with_reducible refine aS fun K' hK=> ?_);simp[s8,hw];(first | refine hK _ _ _ ?_ | done);clear K' hK;refine aw_skipL (loopK_normal ?_ ?_)
    ·refine⟨by simp[s0],by simp[s1],by simp[s7],i+1,by simp[hw],by omega,fun j hj=> ?_⟩;rcases Nat.lt_or_ge j i with h1 | h1
     ·exact hno j h1
     ·have:j=i:=(by omega);subst this;exact hc
    ·simp[s8,hw];omega
  ·(repeat with_reducible refine aA ?_);(first | with_reducible refine aw_exit ?_ | with_reducible refine aw_exitL ?_);refine loopK_exit (blockK_exit ?_);(repeat with_reducible refine aA ?_);(first | with_reducible refine aR fun K' hK=> ?_ | with_reducible refine aS fun K' hK=> ?_);simp;(first | refine hK _ _ _ ?_ | done);clear K' hK;(repeat with_reducible refine aA ?_);(first | with_reducible refine aw_ret ?_ | with_reducible refine aw_retL ?_ | with_reducible refine aw_skipL ?_);simp[blockK,loopK,Post,resA,res1,expT,expA,exp1,expM,expL,okT,okA,ok1,rowOf,Tryz.f166];have:t.findIdx? f=none:=by
    rw[List.findIdx?_eq_none_iff];intro d hd;obtain⟨j,hj,rfl⟩:=List.mem_iff_getElem.1 hd;rw[←nth_eq hj];exact hno j (by omega)
   simp[this,atI]
theorem has112_ok (t:List Pl) (q:Pl) (hl:t.length<4611686018427387904):CallsOK Tryz.prog 112 [rowT Pl.cells t,.fn 113 [.cp q.cells 0]] (bV (t.any (twinQ q))) []:=by
 refine callsOK mixed Tryz.call112 Tryz.func112 rfl (by rw[Tryz.ntmps112];simp) ?_ rfl;rw[Tryz.ntmps112];(repeat with_reducible refine aA ?_);(first | with_reducible refine aR fun K' hK=> ?_ | with_reducible refine aS fun K' hK=> ?_);simp;(first | refine hK _ _ _ ?_ | done);clear K' hK;(repeat with_reducible refine aA ?_);(first | with_reducible refine aR fun K' hK=> ?_ | with_reducible refine aS fun K' hK=> ?_);simp;refine acall_flat (indexT_ok t q hl) rfl (by first | rfl | (simp;done) | (simp;rfl) | (simp;exact⟨rfl,rfl⟩)) ?_;simp;(first | refine hK _ _ _ ?_ | done);clear K' hK;(repeat with_reducible refine aA ?_);(first | with_reducible refine aw_ret ?_ | with_reducible refine aw_retL ?_ | with_reducible refine aw_skipL ?_);simp[blockK,loopK,Post,resA,res1,expT,expA,exp1,expM,expL,okT,okA,ok1,rowOf,Tryz.f112];cases hf:t.findIdx? (twinQ q)with
 | none=>
  rw[List.findIdx?_eq_none_iff]at hf;have:t.any (twinQ q)=false:=List.any_eq_false.2 fun p hp=>(by simp[hf p hp]);simp[atI,this]
 | some i=>
  rw[List.findIdx?_eq_some_iff_getElem]at hf;obtain⟨hi,h,_⟩:=hf;have:t.any (twinQ q)=true:=List.any_eq_true.2 ⟨_,List.getElem_mem hi,h⟩;simp[atI,this]
theorem lift59_ok (t:List Pl) (ht:OKs t) (n:Int):CallsOK Tryz.prog 59 [rowT Pl.cells t,iV n] (.tup [.row 0 (liftR t n).length,iV (liftCode t n)]) [(58,flat Pl.cells (liftR t n))]:=by
 refine callsOK mixed Tryz.call59 Tryz.func59 rfl (by rw[Tryz.ntmps59];simp) ?_ rfl;rw[Tryz.ntmps59];have htl:=ht.1;(repeat with_reducible refine aA ?_);(first | with_reducible refine aR fun K' hK=> ?_ | with_reducible refine aS fun K' hK=> ?_);simp;(first | refine hK _ _ _ ?_ | done);clear K' hK;(repeat with_reducible refine aA ?_);(first | with_reducible refine aR fun K' hK=> ?_ | with_reducible refine aS fun K' hK=> ?_);simp;refine acall_flat (check18_ok t ht) rfl (by simp) ?_;simp;(first | refine hK _ _ _ ?_ | done);clear K' hK;by_cases c0:checkN t=0
 ·have g:Good t:=check_iff.1 c0;(repeat with_reducible refine aA ?_);(first | with_reducible refine aR fun K' hK=> ?_ | with_reducible refine aS fun K' hK=> ?_);simp[c0];(first | refine hK _ _ _ ?_ | done);clear K' hK;repeat with_reducible refine aA ?_
  (first | with_reducible refine aC fun A B hA hB=> ?_ | with_reducible refine aD fun A B hA hB=> ?_)
  simp[c0];refine⟨fun hc=>hA ?_,fun hc=>hB ?_⟩<;>clear hA hB A B<;>(try (simp at hc;done))<;>(try (exfalso;simp at hc;omega))<;>clear hc<;>(try with_reducible refine aK ?_);have bad:∀z:Int,z≠0→liftCode t n=z→∃x,x=x∧liftCode t n=z∧liftR t n=[]:=fun z hz h=>⟨z,rfl,h,by unfold liftR;rw[if_neg (by rw[h];exact hz)]⟩;by_cases n1:n<1
  ·obtain⟨_,_,e1,e2⟩:=bad 151 (by decide) (by unfold liftCode;rw[if_neg (by simp[c0]),if_pos (by omega)]);(repeat with_reducible refine aA ?_);(first | with_reducible refine aR fun K' hK=> ?_ | with_reducible refine aS fun K' hK=> ?_);simp[n1];(first | refine hK _ _ _ ?_ | done);clear K' hK;repeat with_reducible refine aA ?_
   (first | with_reducible refine aC fun A B hA hB=> ?_ | with_reducible refine aD fun A B hA hB=> ?_)
   simp;refine⟨fun hc=>hA ?_,fun hc=>hB ?_⟩<;>clear hA hB A B<;>(try (simp at hc;done))<;>(try (exfalso;simp at hc;omega))<;>clear hc<;>(try with_reducible refine aK ?_);(repeat with_reducible refine aA ?_);(first | with_reducible refine aR fun K' hK=> ?_ | with_reducible refine aS fun K' hK=> ?_);simp;(first | refine hK _ _ _ ?_ | done);clear K' hK;(repeat with_reducible refine aA ?_);(first | with_reducible refine aw_ret ?_ | with_reducible refine aw_retL ?_ | with_reducible refine aw_skipL ?_);simp[blockK,loopK,Post,resA,res1,expT,expA,exp1,expM,expL,okT,okA,ok1,rowOf,Tryz.f59];rw[e1,e2];exact⟨[1],⟨⟨rfl,rfl⟩,rfl⟩,rfl⟩
  by_cases n2:(t.length:Int)≤n
  ·obtain⟨_,_,e1,e2⟩:=bad 151 (by decide) (by unfold liftCode;rw[if_neg (by simp[c0]),if_pos (by omega)]);(repeat with_reducible refine aA ?_);(first | with_reducible refine aR fun K' hK=> ?_ | with_reducible refine aS fun K' hK=> ?_);simp[n1,n2];(first | refine hK _ _ _ ?_ | done);clear K' hK;repeat with_reducible refine aA ?_
   (first | with_reducible refine aC fun A B hA hB=> ?_ | with_reducible refine aD fun A B hA hB=> ?_)
   simp;refine⟨fun hc=>hA ?_,fun hc=>hB ?_⟩<;>clear hA hB A B<;>(try (simp at hc;done))<;>(try (exfalso;simp at hc;omega))<;>clear hc<;>(try with_reducible refine aK ?_);(repeat with_reducible refine aA ?_);(first | with_reducible refine aR fun K' hK=> ?_ | with_reducible refine aS fun K' hK=> ?_);simp;(first | refine hK _ _ _ ?_ | done);clear K' hK;(repeat with_reducible refine aA ?_);(first | with_reducible refine aw_ret ?_ | with_reducible refine aw_retL ?_ | with_reducible refine aw_skipL ?_);simp[blockK,loopK,Post,resA,res1,expT,expA,exp1,expM,expL,okT,okA,ok1,rowOf,Tryz.f59];rw[e1,e2];exact⟨[1],⟨⟨rfl,rfl⟩,rfl⟩,rfl⟩
  have n3:n.toNat<t.length:=(by omega);have n4:0≤n:=(by omega);have n5:n<t.length:=(by omega);have hp1:=g.par n.toNat (by omega) n3;have hpe:(nth t n.toNat).par=parN t n.toNat:=rfl;by_cases n6:parN t n.toNat=0
  ·obtain⟨_,_,e1,e2⟩:=bad 151 (by decide) (by unfold liftCode;rw[if_neg (by simp[c0]),if_neg (by omega),if_pos n6]);(repeat with_reducible refine aA ?_);(first | with_reducible refine aR fun K' hK=> ?_ | with_reducible refine aS fun K' hK=> ?_);simp[n1,n2,n3,n4,n5,hpe,n6];(first | refine hK _ _ _ ?_ | done);clear K' hK;repeat with_reducible refine aA ?_
   (first | with_reducible refine aC fun A B hA hB=> ?_ | with_reducible refine aD fun A B hA hB=> ?_)
   simp;refine⟨fun hc=>hA ?_,fun hc=>hB ?_⟩<;>clear hA hB A B<;>(try (simp at hc;done))<;>(try (exfalso;simp at hc;omega))<;>clear hc<;>(try with_reducible refine aK ?_);(repeat with_reducible refine aA ?_);(first | with_reducible refine aR fun K' hK=> ?_ | with_reducible refine aS fun K' hK=> ?_);simp;(first | refine hK _ _ _ ?_ | done);clear K' hK;(repeat with_reducible refine aA ?_);(first | with_reducible refine aw_ret ?_ | with_reducible refine aw_retL ?_ | with_reducible refine aw_skipL ?_);simp[blockK,loopK,Post,resA,res1,expT,expA,exp1,expM,expL,okT,okA,ok1,rowOf,Tryz.f59];rw[e1,e2];exact⟨[1],⟨⟨rfl,rfl⟩,rfl⟩,rfl⟩
  have p1:0≤parN t n.toNat:=(by omega);have p2:parN t n.toNat<t.length:=(by omega);have p3:(parN t n.toNat).toNat<t.length:=(by omega);have hge:(nth t (parN t n.toNat).toNat).par=gpN t n.toNat:=rfl;have hcell:iV (gpN t n.toNat)::(nth t n.toNat).cells.tail=(liftP t n.toNat).cells:=rfl;have hany:t.any (twinQ (liftP t n.toNat))=t.any (twinP t n.toNat):=rfl;have hH:=has112_ok t (liftP t n.toNat) (by omega);rw[hany]at hH;have hq:∀q:Pl,q.cells.mapM (fun a=>match a with | .v x=>some (.v x) | .sl n cs=>some (.sl n cs) | _=>none)=some q.cells:=fun q=>rfl
  (repeat with_reducible refine aA ?_);(first | with_reducible refine aR fun K' hK=> ?_ | with_reducible refine aS fun K' hK=> ?_);simp[n1,n2,n3,n4,n5,hpe,n6];(first | refine hK _ _ _ ?_ | done);clear K' hK;repeat with_reducible refine aA ?_
  (first | with_reducible refine aC fun A B hA hB=> ?_ | with_reducible refine aD fun A B hA hB=> ?_)
  simp;refine⟨fun hc=>hA ?_,fun hc=>hB ?_⟩<;>clear hA hB A B<;>(try (simp at hc;done))<;>(try (exfalso;simp at hc;omega))<;>clear hc<;>(try with_reducible refine aK ?_);(repeat with_reducible refine aA ?_);(first | with_reducible refine aR fun K' hK=> ?_ | with_reducible refine aS fun K' hK=> ?_);simp[n3,n4,n5];(first | refine hK _ _ _ ?_ | done);clear K' hK;(repeat with_reducible refine aA ?_);(first | with_reducible refine aR fun K' hK=> ?_ | with_reducible refine aS fun K' hK=> ?_);simp[hpe,p1,p2,p3,hge,hcell];(first | refine hK _ _ _ ?_ | done);clear K' hK;by_cases c1:t.any (twinP t n.toNat)=true
  ·obtain⟨_,_,e1,e2⟩:=bad 152 (by decide) (by unfold liftCode;rw[if_neg (by simp[c0]),if_neg (by omega),if_neg n6,if_pos c1]);(repeat with_reducible refine aA ?_);(first | with_reducible refine aR fun K' hK=> ?_ | with_reducible refine aS fun K' hK=> ?_);simp[hq];refine acall_flat hH rfl (by first | rfl | (simp[hq];done) | (simp[hq];rfl) | (simp[hq];exact⟨rfl,rfl⟩)) ?_;simp[c1];(first | refine hK _ _ _ ?_ | done);clear K' hK;repeat with_reducible refine aA ?_
   (first | with_reducible refine aC fun A B hA hB=> ?_ | with_reducible refine aD fun A B hA hB=> ?_)
   simp;refine⟨fun hc=>hA ?_,fun hc=>hB ?_⟩<;>clear hA hB A B<;>(try (simp at hc;done))<;>(try (exfalso;simp at hc;omega))<;>clear hc<;>(try with_reducible refine aK ?_);(repeat with_reducible refine aA ?_);(first | with_reducible refine aR fun K' hK=> ?_ | with_reducible refine aS fun K' hK=> ?_);simp;(first | refine hK _ _ _ ?_ | done);clear K' hK;(repeat with_reducible refine aA ?_);(first | with_reducible refine aw_ret ?_ | with_reducible refine aw_retL ?_ | with_reducible refine aw_skipL ?_);simp[blockK,loopK,Post,resA,res1,expT,expA,exp1,expM,expL,okT,okA,ok1,rowOf,Tryz.f59];rw[e1,e2];exact⟨[2],⟨⟨rfl,rfl⟩,rfl⟩,rfl⟩
  ·have e1:liftCode t n=0:=(by unfold liftCode;rw[if_neg (by simp[c0]),if_neg (by omega),if_neg n6,if_neg c1]);have e2:liftR t n=liftT t n.toNat:=(by unfold liftR;rw[if_pos e1]);rw[e1,e2];have hput:putO (flat Pl.cells t) 6 n.toNat 0 (liftP t n.toNat).cells=flat Pl.cells (liftT t n.toNat):=putO_flat n3 _;have hne:t≠[]:=List.ne_nil_of_length_pos g.pos;(repeat with_reducible refine aA ?_);(first | with_reducible refine aR fun K' hK=> ?_ | with_reducible refine aS fun K' hK=> ?_);simp[hq];refine acall_flat hH rfl (by first | rfl | (simp[hq];done) | (simp[hq];rfl) | (simp[hq];exact⟨rfl,rfl⟩)) ?_;simp[c1];(first | refine hK _ _ _ ?_ | done);clear K' hK;repeat with_reducible refine aA ?_
   (first | with_reducible refine aC fun A B hA hB=> ?_ | with_reducible refine aD fun A B hA hB=> ?_)
   simp;refine⟨fun hc=>hA ?_,fun hc=>hB ?_⟩<;>clear hA hB A B<;>(try (simp at hc;done))<;>(try (exfalso;simp at hc;omega))<;>clear hc<;>(try with_reducible refine aK ?_);(repeat with_reducible refine aA ?_);(first | with_reducible refine aR fun K' hK=> ?_ | with_reducible refine aS fun K' hK=> ?_);simp;refine acall_new (clone35_ok t (by omega) hne) (by first | rfl | (simp;done) | (simp;rfl) | (simp;exact⟨rfl,rfl⟩)) ?_;simp[addJ_one];(first | refine hK _ _ _ ?_ | done);clear K' hK;(repeat with_reducible refine aA ?_);(first | with_reducible refine aR fun K' hK=> ?_ | with_reducible refine aS fun K' hK=> ?_);simp[n3,n4,n5,hput];(first | refine hK _ _ _ ?_ | done);clear K' hK;(repeat with_reducible refine aA ?_);(first | with_reducible refine aR fun K' hK=> ?_ | with_reducible refine aS fun K' hK=> ?_);simp;(first | refine hK _ _ _ ?_ | done);clear K' hK;(repeat with_reducible refine aA ?_);(first | with_reducible refine aw_ret ?_ | with_reducible refine aw_retL ?_ | with_reducible refine aw_skipL ?_);simp[blockK,loopK,Post,resA,res1,expT,expA,exp1,expM,expL,okT,okA,ok1,rowOf,Tryz.f59];exact⟨[2],⟨lift_len.symm,rfl⟩,by simp[rowOf]⟩
 ·(repeat with_reducible refine aA ?_);(first | with_reducible refine aR fun K' hK=> ?_ | with_reducible refine aS fun K' hK=> ?_);simp[c0];(first | refine hK _ _ _ ?_ | done);clear K' hK;repeat with_reducible refine aA ?_
  (first | with_reducible refine aC fun A B hA hB=> ?_ | with_reducible refine aD fun A B hA hB=> ?_)
  simp[c0];refine⟨fun hc=>hA ?_,fun hc=>hB ?_⟩<;>clear hA hB A B<;>(try (simp at hc;done))<;>(try (exfalso;simp at hc;omega))<;>clear hc<;>(try with_reducible refine aK ?_);(repeat with_reducible refine aA ?_);(first | with_reducible refine aR fun K' hK=> ?_ | with_reducible refine aS fun K' hK=> ?_);simp;(first | refine hK _ _ _ ?_ | done);clear K' hK;(repeat with_reducible refine aA ?_);(first | with_reducible refine aw_ret ?_ | with_reducible refine aw_retL ?_ | with_reducible refine aw_skipL ?_);simp[blockK,loopK,Post,resA,res1,expT,expA,exp1,expM,expL,okT,okA,ok1,rowOf,Tryz.f59];have e1:liftCode t n=checkN t:=(by simp[liftCode,c0]);have e2:liftR t n=[]:=(by rw[liftR,e1,if_neg c0]);rw[e1,e2];exact⟨[1],⟨⟨rfl,rfl⟩,rfl⟩,rfl⟩
set_option maxRecDepth 100000
set_option maxHeartbeats 400000
def natZ (z:Int):Option Nat:=if 0≤z then some z.toNat else none
def leadsN (root:Man) (L:List Man) (t:List Pl) (n:Nat):List Nat:=(if 0<n then[(parN t n).toNat]else[])++((edgesV root L t n).map (toN t n)).filterMap natZ
def offN (on:List Bool):Nat:=on.countP (fun b=> !b)
structure Dfs (root:Man) (L:List Man) (t:List Pl) (on:List Bool) (w:List Nat):Prop where
 len:on.length=t.length
 zero:nth on 0=true
 sub:∀k,nth on k=true→Rch root L t k
 win:∀k∈w,nth on k=true
 don:∀k,nth on k=true→k∉w→∀j∈leadsN root L t k,nth on j=true
structure Rnd (root:Man) (L:List Man) (t:List Pl) (n M:Nat) (acc:List Nat) (on:List Bool) (w:List Nat):Prop where
 len:on.length=t.length
 zero:nth on 0=true
 sub:∀k,nth on k=true→Rch root L t k
 win:∀k∈w,nth on k=true
 ac:∀k∈acc,nth on k=true
 don:∀k,nth on k=true→k∉w→k≠n→∀j∈leadsN root L t k,nth on j=true
 msr:w.length+2*offN on≤M
set_option maxRecDepth 100000
set_option maxHeartbeats 4000000
theorem CallsOK.weakJs {P:Program} [Gl P] {f:FuncId} {xs:List AV} {r:AV} {J J':Js} (h:CallsOK P f xs r J) (hlen:J.length=J'.length)
  (hJ:∀(i:Nat) e cs,J[i]? =some (e,cs)→∃ds,J'[i]? =some (e,ds)∧WkTL cs ds):CallsOK P f xs r J':=by
 have e1:∀ {i:Nat} {o:AObj},ofJ J i=some o→∃e cs ds,J[i]? =some (e,cs)∧o=.row e cs∧J'[i]? =some (e,ds)∧ofJ J' i=some (.row e ds)∧WkTL cs ds:=by
  intro i o ho;unfold ofJ at ho⊢;cases hi:J[i]? with
  | none=>rw[hi]at ho;cases ho
  | some p=>
   rw[hi]at ho;simp only[Option.map_some,Option.some.injEq]at ho;obtain⟨ds,h1,h2⟩:=hJ i p.1 p.2 hi;exact⟨p.1,p.2,ds,rfl,ho.symm,h1,by rw[h1];rfl,h2⟩
 have e2:∀ {i:Nat} {o:AObj},ofJ J' i=some o→∃e cs ds,o=.row e ds∧ofJ J i=some (.row e cs)∧WkTL cs ds:=by
  intro i o ho;cases hi:J[i]? with
  | none=>
   have:J'[i]? =none:=(by rw[List.getElem?_eq_none_iff]at hi⊢;omega);unfold ofJ at ho;rw[this]at ho;cases ho
  | some p=>
   obtain⟨ds,h1,h2⟩:=hJ i p.1 p.2 hi;unfold ofJ at ho;rw[h1]at ho;simp only[Option.map_some,Option.some.injEq]at ho;exact⟨p.1,p.2,ds,ho.symm,by unfold ofJ;rw[hi];rfl,h2⟩
 refine⟨h.1,h.2.1,fun w us F hF hΓ hx=>(h.2.2 w us F hF hΓ hx).mono fun en w' hh=> ?_⟩;obtain⟨u,E',rfl,hv,hR,hEF,hb,hge⟩:=hh;refine⟨u,E',rfl,hv,⟨hR.inj,fun i b hi=> ?_,hR.lt,fun i o hi ha=> ?_,fun i=> ?_,fun b=> ?_,hR.nF,hR.Flt,hR.good⟩,hEF,hb,hge⟩
 ·obtain⟨o,h1,h2⟩:=hR.dom i b hi;obtain⟨e,cs,ds,_,rfl,_,h3,_⟩:=e1 h1;exact⟨_,h3,rfl⟩
 ·obtain⟨e,cs,ds,rfl,h1,hw⟩:=e2 hi;obtain⟨hl,hat⟩:=hw.at;rcases hR.obj i _ h1 rfl with⟨b,hb,us',q1,q2,q3⟩ | ⟨hN,e',he⟩
  ·refine .inl ⟨b,hb,us',q1,by omega,fun j c x hc hx=> ?_⟩;have hi:j<cs.length:=(by rw[hl];exact(List.getElem?_eq_some_iff.1 hc).1);exact hat j _ c (List.getElem?_eq_getElem hi) hc _ _ _ (q3 j _ x (List.getElem?_eq_getElem hi) hx)
  ·injection he with he1 he2;subst he2;cases ds with
   | nil=>exact .inr ⟨hN,e,rfl⟩
   | cons _ _=>simp at hl
 ·rw[hR.K i];exact⟨fun⟨o,h⟩=>by obtain⟨e,cs,ds,_,_,_,h3,_⟩:=e1 h;exact⟨_,h3⟩,fun⟨o,h⟩=>by obtain⟨e,cs,ds,_,h3,_⟩:=e2 h;exact⟨_,h3⟩⟩
 ·rw[hR.W b];exact⟨fun⟨i,o,h1,h2,h3⟩=>by obtain⟨e,cs,ds,_,rfl,_,h4,_⟩:=e1 h2;exact⟨i,_,h1,h4,rfl⟩,fun⟨i,o,h1,h2,h3⟩=>by obtain⟨e,cs,ds,rfl,h4,_⟩:=e2 h2;exact⟨i,_,h1,h4,rfl⟩⟩
def freeR:Rg:=[[]]
def v1:Ver:=⟨1,0,0,⟨#[]⟩⟩
def v2:Ver:=⟨2,0,0,⟨#[]⟩⟩
def twoR:Rg:=[[⟨5,v2⟩]]
set_option maxRecDepth 100000
set_option maxHeartbeats 4000000
def nA:Bs:=⟨#[97]⟩
def nB:Bs:=⟨#[98]⟩
def nC:Bs:=⟨#[99]⟩
def smallRoot:Man:=⟨⟨#[]⟩,⟨0,0,0,⟨#[]⟩⟩,[⟨1,nA,freeR⟩,⟨3,nB,twoR⟩],[]⟩
def smallX:List Man:=[⟨nA,v1,[⟨4,nC,freeR⟩],[]⟩,⟨nC,v1,[],[]⟩]
def gT1:List Pl:=[rootP,⟨0,nA,v1⟩]
def gT2:List Pl:=[rootP,⟨0,nA,v1⟩,⟨0,nC,v1⟩]
def gT3:List Pl:=[rootP,⟨0,nA,v1⟩,⟨0,nC,v1⟩,⟨0,nB,v1⟩]
theorem fine_at {root:Man} {L:List Man} {t:List Pl} {i:Int} {m:Man} {E:List Dep} (hm:manVal root L t i=some m) (ho:ofF m.deps root.rules (decide (i=0))=E):fineV root L t i=E.all (holdsV t i):=by
 unfold fineV;rw[hm];simp only[ho]
theorem of_small {ds:List Dep} {b:Bool} {S:List Bs} {E:List Dep} (h1:namesOf (byM b ds)=S) (h2:S.Pairwise leB') (h3:(S.map fun n=>edgeOf [] (findD (byM b ds) n))=E):ofF ds [] b=E:=by
 unfold ofF;rw[h1,sortN_self h2,h3]
instance (a b:Bs):Decidable (leB' a b):=by unfold leB';infer_instance
set_option maxRecDepth 100000
set_option maxHeartbeats 4000000
def smallA:List AV:=[sV ⟨#[]⟩,iV 0,iV 0,iV 0,sV ⟨#[]⟩,rowT Dep.cells smallRoot.deps,.v (.slice none 0 0)]
set_option maxRecDepth 100000
set_option maxHeartbeats 8000000
set_option maxRecDepth 100000
set_option maxHeartbeats 4000000
def RowI (N:Nat) (G:Hp) (x:AV) (acc:List Int):Prop:=(x=.v (.slice none 0 0)∧acc=[])∨∃r,x=.row r acc.length∧r<N∧G r=some (.row 3 (flat iC acc))∧acc≠[]
theorem RowI.keep {N N':Nat} {G G':Hp} {x:AV} {acc:List Int} (h:RowI N G x acc) (hN:N≤N') (hg:∀i,i<N→G' i=G i):RowI N' G' x acc:=by
 rcases h with h | ⟨r,h1,h2,h3,h4⟩
 ·exact .inl h
 ·exact .inr ⟨r,h1,by omega,by rw[hg r h2];exact h3,h4⟩
def man0:Man:=⟨⟨#[]⟩,⟨0,0,0,⟨#[]⟩⟩,[],[]⟩
set_option maxRecDepth 100000
set_option maxHeartbeats 4000000
def planC (root:Man) (L:List Man) (t:List Pl):List AV:=root.cells++[rowT Man.cells L,rowT Pl.cells t]
@[simp] theorem planC_len (root:Man) (L:List Man) (t:List Pl):(planC root L t).length=9:=rfl
@[simp] theorem plan_root (root:Man) (L:List Man) (t:List Pl):getC (planC root L t) 0 7=some root.cells:=rfl
@[simp] theorem plan_rules (root:Man) (L:List Man) (t:List Pl):getC (planC root L t) 6 1=some [rowT Ru.cells root.rules]:=rfl
@[simp] theorem plan_x (root:Man) (L:List Man) (t:List Pl):getC (planC root L t) 7 1=some [rowT Man.cells L]:=rfl
@[simp] theorem plan_t (root:Man) (L:List Man) (t:List Pl):getC (planC root L t) 8 1=some [rowT Pl.cells t]:=rfl
set_option maxRecDepth 100000
set_option maxHeartbeats 4000000
def RowM (N:Nat) (G:Hp) (x:AV) (acc:List Man):Prop:=∃r,x=.row r acc.length∧r<N∧G r=some (.row 27 (flat Man.cells acc))
theorem RowM.keep {N N':Nat} {G G':Hp} {x:AV} {acc:List Man} (h:RowM N G x acc) (hN:N≤N') (hg:∀i,i<N→G' i=G i):RowM N' G' x acc:=by
 obtain⟨r,h1,h2,h3⟩:=h;exact⟨r,h1,by omega,by rw[hg r h2];exact h3⟩
def RowJ (N:Nat) (G:Hp) (x:AV) (acc:List Int):Prop:=(x=.v (.slice none 0 0)∧acc=[])∨∃r,x=.row r acc.length∧r<N∧G r=some (.row 3 (flat iC acc))
theorem RowJ.keep {N N':Nat} {G G':Hp} {x:AV} {acc:List Int} (h:RowJ N G x acc) (hN:N≤N') (hg:∀i,i<N→G i=some (.row 3 (flat iC acc))→G' i=G i):RowJ N' G' x acc:=by
 rcases h with h | ⟨r,h1,h2,h3⟩
 ·exact .inl h
 ·exact .inr ⟨r,h1,by omega,by rw[hg r h2 h3];exact h3⟩
def wrongO (root:Man) (L:List Man) (t:List Pl):List Int:=if codeV root L t=0 then wrongL root L t else[]
theorem wrongR_form (root:Man) (L:List Man) (t:List Pl):(wrongO root L t=[]∧wrongR root L t=(.tup [.v (.slice none 0 0),iV (codeV root L t)],[]))∨wrongR root L t=(.tup [.row 0 (wrongO root L t).length,iV (codeV root L t)],[(3,flat iC (wrongO root L t))]):=by
 unfold wrongR wrongO;by_cases h:codeV root L t=0
 ·rw[if_pos h,if_pos h];by_cases w:wrongL root L t=[]
  ·rw[if_pos w,h];exact .inl ⟨w,rfl⟩
  ·rw[if_neg w,h];exact .inr rfl
 ·rw[if_neg h,if_neg h];exact .inr rfl
set_option maxRecDepth 100000
set_option maxHeartbeats 4000000
@[simp] theorem ty120:tyI Tryz.prog 120=some (false,1):=by kernel_rfl
def bC (b:Bool):List AV:=[bV b]
instance:Wid bC 1:=⟨fun _=>rfl,by decide⟩
@[simp] theorem bC_eq (b:Bool):bC b=[bV b]:=rfl
@[simp] theorem evCut_own (P:Program) (G:Hp) (t:TypeId) (id n:Nat) (hi:Nat→Option Nat):evCut P G t (.row id n) hi=match G id,elI P t,hi n with
  | some (.row e' cs),some (e,k,_,_),some h=>if e'=e∧h≤n∧cs.length=n*k then some (.row id h,G.upd id (.row e' (cs.take (h*k))))else none
  | _,_,_=>none:=rfl
def intsN (w:List Nat):List Int:=w.map fun(k:Nat)=>(k:Int)
@[simp] theorem intsN_len (w:List Nat):(intsN w).length=w.length:=by simp[intsN]
def waitN (G:Hp):AV→Nat
 | .ptr p _=>match G p with
  | some (.var _ (.row _ n::_))=>n
  | _=>0
 | _=>0
def isOff:AV→Bool
 | .v (.bool false)=>true
 | _=>false
def offC (G:Hp) (ob:Nat):Nat:=match G ob with
 | some (.row _ cs)=>cs.countP isOff
 | _=>0
def InvR (root:Man) (L:List Man) (t:List Pl) (Lq:Lp) (n0 p Z n M:Nat) (acc:List Nat) (q:Nat) (G:Hp) (nx:Nat):Prop:=∃(on:List Bool) (w:List Nat),G p=some (.var 49 [.row q w.length])∧G q=some (.row 3 (flat iC (intsN w)))∧G n0=some (.row 4 (flat bC on))∧G (n0+1)=some (.var 123 [.row n0 t.length])∧G Z=some (Lq.o .ready none)∧n0+1<q∧p≠q∧Z≠q∧q<nx∧Z<nx∧Rnd root L t n M acc on w
noncomputable def reachR (root:Man) (L:List Man) (t:List Pl):AV×Js:=(.tup [.row 0 (reachL root L t).length,iV (codeV root L t)],[(3,flat iC (reachL root L t))])
set_option maxRecDepth 100000
set_option maxHeartbeats 4000000
def entB (S:List Int):List (Value×AV):=S.map fun k=>(.int .i64 k,bV true)
def putB (S:List Int) (k:Int):List Int:=if k∈S then S else S++[k]
def keepM (q:Nat→Bool) (k:Nat):List (Int×Int):=(-1,-1)::(keptQ q k).map fun(j:Nat)=>((j:Int),renQ q j)
set_option maxRecDepth 100000
set_option maxHeartbeats 4000000
theorem flatG_J {α:Type} {c:α→List AV} (h:∀a,(c a).all plainC=true) (t:TypeId) (l:List α):flatJ [(t,flat c l)]=true:=by
 have:(flat c l).all plainC=true:=by
  unfold flat;rw[List.all_flatMap];exact List.all_eq_true.2 fun a _=>h a
 simp only[flatJ,List.all_cons,this];rfl
theorem iC_J (t:TypeId) (l:List Int):flatJ [(t,flat iC l)]=true:=flatG_J (fun _=>rfl) t l
theorem pl_J (t:TypeId) (l:List Pl):flatJ [(t,flat Pl.cells l)]=true:=flatG_J (fun _=>rfl) t l
set_option maxRecDepth 100000
set_option maxHeartbeats 4000000
def prRoot:Man:=⟨⟨#[]⟩,⟨0,0,0,⟨#[]⟩⟩,[⟨1,nA,freeR⟩],[]⟩
def prX:List Man:=[⟨nA,v1,[],[]⟩,⟨nB,v1,[],[]⟩]
def prT:List Pl:=[rootP,⟨0,nA,v1⟩,⟨0,nB,v1⟩,⟨1,nB,v1⟩]
def prK:List Pl:=[rootP,⟨0,nA,v1⟩,⟨1,nB,v1⟩]
theorem pr_big:bigM prRoot=false∧bigI prX=false∧bigT prT=false:=by decide+kernel
def prA:List AV:=[sV ⟨#[]⟩,iV 0,iV 0,iV 0,sV ⟨#[]⟩,rowT Dep.cells prRoot.deps,.v (.slice none 0 0)]
def prB (i:Nat):List AV:=[sV ⟨#[]⟩,iV 0,iV 0,iV 0,sV ⟨#[]⟩,.row i 1,.v (.slice none 0 0)]
theorem wk_pr {P:Program} [Gl P]:Wk P (.agg prA) (.agg prRoot.cells):=
 .agg (.cons (.refl _) (.cons (.refl _) (.cons (.refl _) (.cons (.refl _) (.cons (.refl _) (.cons (.refl _) (.cons .nilRow .nil)))))))
theorem pr_flat_d:flat Dep.cells prRoot.deps=[iV 1,sV nA,.sl 1 [.sl 0 []]]:=rfl
theorem pr_same:∀a:List Pl,a.length≤1000000000→CallsOK Tryz.prog 32 [rowT Pl.cells a,rowT Pl.cells a] (bV true) []:=fun a ha=>by
 have h:=same16_ok a a ha;simpa using h
set_option maxRecDepth 100000
set_option maxHeartbeats 4000000
set_option maxRecDepth 100000
set_option maxHeartbeats 4000000
theorem cut_mem {t:List Pl} {n:Int} {p:Pl} (h:p∈cutR t n):∃q∈t,p.name=q.name∧p.ver=q.ver:=by
 unfold cutR at h;split at h
 ·unfold cutT at h;obtain⟨j,hj,rfl⟩:=List.mem_map.1 h;unfold keptN at hj;exact⟨nth t j,nth_mem (List.mem_range.1 (List.mem_filter.1 hj).1),rfl,rfl⟩
 ·cases h
theorem cutR_len {t:List Pl} {n:Int} :(cutR t n).length≤t.length:=by
 unfold cutR;split
 ·rw[cut_len];exact kept_le
 ·simp
theorem cut_sz {root:Man} {L:List Man} {t:List Pl} {n:Int} (h:ValSz root L t):ValSz root L (cutR t n):=by
 obtain⟨a,b,c,d,e,f⟩:=h;refine⟨a,b,c,d,⟨Nat.le_trans cutR_len e.1,fun p hp=> ?_⟩,fun p hp=> ?_⟩
 ·obtain⟨q,hq,e1,e2⟩:=cut_mem hp;rw[e1,e2];exact e.2 q hq
 ·obtain⟨q,hq,e1,e2⟩:=cut_mem hp;rw[e2];exact f q hq
set_option maxRecDepth 100000
set_option maxHeartbeats 4000000
def cutsZ (root:Man) (L:List Man) (t:List Pl) (n:Int):Bool:=decide (cutCode t n=0)&&validN root L (cutR t n)
def liftsZ (root:Man) (L:List Man) (t:List Pl) (n:Int):Bool:=decide (liftCode t n=0)&&validN root L (liftR t n)
theorem liftR_mem {t:List Pl} {n:Int} {p:Pl} (h:p∈liftR t n):∃q∈t,p.name=q.name∧p.ver=q.ver:=by
 unfold liftR at h;split at h
 ·rename_i hc;have hl:=(lift_iff.1 hc).2;obtain⟨j,hj,rfl⟩:=List.mem_iff_getElem.1 h;rw[lift_len]at hj;have e:=lift_name hl (j:=j);rw[nth_eq (by rw[lift_len];exact hj)]at e;exact⟨nth t j,nth_mem hj,e.1,e.2⟩
 ·cases h
theorem liftR_len {t:List Pl} {n:Int} :(liftR t n).length≤t.length:=by
 unfold liftR;split
 ·rw[lift_len];exact Nat.le_refl _
 ·simp
theorem lift_sz {root:Man} {L:List Man} {t:List Pl} {n:Int} (h:ValSz root L t):ValSz root L (liftR t n):=by
 obtain⟨a,b,c,d,e,f⟩:=h;refine⟨a,b,c,d,⟨Nat.le_trans liftR_len e.1,fun p hp=> ?_⟩,fun p hp=> ?_⟩
 ·obtain⟨q,hq,e1,e2⟩:=liftR_mem hp;rw[e1,e2];exact e.2 q hq
 ·obtain⟨q,hq,e1,e2⟩:=liftR_mem hp;rw[e2];exact f q hq
def workC (root:Man) (L:List Man) (x:AV):List AV:=root.cells++[rowT Man.cells L,x]
@[simp] theorem workC_len (root:Man) (L:List Man) (x:AV):(workC root L x).length=9:=rfl
@[simp] theorem work_root (root:Man) (L:List Man) (x:AV):getC (workC root L x) 0 7=some root.cells:=rfl
@[simp] theorem work_x (root:Man) (L:List Man) (x:AV):getC (workC root L x) 7 1=some [rowT Man.cells L]:=rfl
@[simp] theorem work_t (root:Man) (L:List Man) (x:AV):getC (workC root L x) 8 1=some [x]:=rfl
def Way (f:FuncId) (root:Man) (L:List Man) (t:List Pl) (n:Int) (p:Bool) (R:List Pl):Prop:=
 ∀(W:Nat) (x:AV) (G:Hp) (nx:Nat) (K:AV→Hp→Nat→Prop),G W=some (.var 139 (workC root L x))→W<nx→(∀X:Hp,(∀k,k<nx→X k=G k)→seesA Tryz.prog X [x,iV n]=some [rowT Pl.cells t,iV n])→
  (∀X ny r,nx≤ny→(∀k,k<nx→X k=G k)→X r=some (.row 58 (flat Pl.cells R))→nx≤r→r<ny→K (.tup [.row r R.length,bV p]) X ny)→InlK Tryz.prog f [.ptr W 0,iV n] K G nx
theorem way_cut {root:Man} {L:List Man} {t:List Pl} (hsz:ValSz root L t) (n:Int):Way 116 root L t n (cutsZ root L t n) (cutR t n):=by
 intro W x G nx K hW hWn hx hK;refine inlK mixed Tryz.call116 Tryz.func116 rfl (by rw[Tryz.ntmps116];simp) fun hf=> ?_;rw[Tryz.ntmps116];have hC:=cut14_ok t hsz.2.2.2.2.1 n;have hV:=valid38_ok root L _ (cut_sz (n:=n) hsz);have hR:cutsZ root L t n=(decide (cutCode t n=0)&&validN root L (cutR t n)):=rfl;have c58:Tryz.prog.cellsOf 58=6:=(by kernel_rfl);have n1:¬W=nx:=(by omega);generalize cutR t n=u at*;(repeat with_reducible refine aA ?_);(first | with_reducible refine aR fun K' hK=> ?_ | with_reducible refine aS fun K' hK=> ?_);simp;(first | refine hK _ _ _ ?_ | done);clear K' hK;(repeat with_reducible refine aA ?_);(first | with_reducible refine aR fun K' hK=> ?_ | with_reducible refine aS fun K' hK=> ?_);simp[hW,n1];refine acall_keep hC ⟨rfl,pl_J _ _⟩ (hx _ fun k hk=>by rw[Hp.upd_ne _ _ (by omega)]) ?_;simp[addJ_one];(first | refine hK _ _ _ ?_ | done);clear K' hK;refine aw_gen (fun s X ny=>s 0=.ptr W 0∧s 6=.row (nx+1) u.length∧s 7=iV (cutCode t n)∧ny=nx+2∧X W=some (.var 139 (workC root L x))∧X (nx+1)=some (.row 58 (flat Pl.cells u))∧∀k,k<nx→X k=G k) ?_ ?_
 ·have n2:¬W=nx+1:=(by omega);exact⟨by simp,by simp,by simp,by simp,by simp[n1,n2,hW],by simp,fun k hk=>by rw[Hp.upd_ne _ _ (by omega),Hp.upd_ne _ _ (by omega)]⟩
 rintro s X ny ⟨s0,s6,s7,rfl,xW,xr,hX⟩;have hT:treeOf Tryz.prog X (.row (nx+1) u.length)=some (rowT Pl.cells u):=treeOf_of xr c58 rfl;have sV:seesA Tryz.prog X [.agg root.cells,rowT Man.cells L,.row (nx+1) u.length]=some [.agg root.cells,rowT Man.cells L,rowT Pl.cells u]:=by
  simp only[seesA,seeA,lookA,hT];rfl
 by_cases c0:cutCode t n=0
 ·(repeat with_reducible refine aA ?_);(first | with_reducible refine aQ fun K' hK=> ?_ | with_reducible refine aT fun K' hK=> ?_);simp[s0,s6,s7,c0,xW];refine acall_flat hV rfl sV ?_;simp;(first | refine hK _ _ _ ?_ | done);clear K' hK;(repeat with_reducible refine aA ?_);(first | with_reducible refine aw_ret ?_ | with_reducible refine aw_retL ?_ | with_reducible refine aw_skipL ?_);simp[blockK,loopK,Post,resA,res1,expT,expA,exp1,expM,expL,okT,okA,ok1,rowOf,Tryz.f116];have:=hK X (nx+2) (nx+1) (by omega) hX xr (by omega) (by omega);rw[hR]at this;simpa [c0]using this
 ·(repeat with_reducible refine aA ?_);(first | with_reducible refine aQ fun K' hK=> ?_ | with_reducible refine aT fun K' hK=> ?_);simp(maxSteps:=1000000) [s0,s6,s7,c0,xW];(first | refine hK _ _ _ ?_ | done);clear K' hK;(repeat with_reducible refine aA ?_);(first | with_reducible refine aw_ret ?_ | with_reducible refine aw_retL ?_ | with_reducible refine aw_skipL ?_);simp[blockK,loopK,Post,resA,res1,expT,expA,exp1,expM,expL,okT,okA,ok1,rowOf,Tryz.f116];have:=hK X (nx+2) (nx+1) (by omega) hX xr (by omega) (by omega);rw[hR]at this;simpa [c0]using this
theorem way_lift {root:Man} {L:List Man} {t:List Pl} (hsz:ValSz root L t) (n:Int):Way 118 root L t n (liftsZ root L t n) (liftR t n):=by
 intro W x G nx K hW hWn hx hK;refine inlK mixed Tryz.call118 Tryz.func118 rfl (by rw[Tryz.ntmps118];simp) fun hf=> ?_;rw[Tryz.ntmps118];have hC:=lift59_ok t hsz.2.2.2.2.1 n;have hV:=valid38_ok root L _ (lift_sz (n:=n) hsz);have hR:liftsZ root L t n=(decide (liftCode t n=0)&&validN root L (liftR t n)):=rfl;have c58:Tryz.prog.cellsOf 58=6:=(by kernel_rfl);have n1:¬W=nx:=(by omega);generalize liftR t n=u at*;(repeat with_reducible refine aA ?_);(first | with_reducible refine aR fun K' hK=> ?_ | with_reducible refine aS fun K' hK=> ?_);simp;(first | refine hK _ _ _ ?_ | done);clear K' hK;(repeat with_reducible refine aA ?_);(first | with_reducible refine aR fun K' hK=> ?_ | with_reducible refine aS fun K' hK=> ?_);simp[hW,n1];refine acall_keep hC ⟨rfl,pl_J _ _⟩ (hx _ fun k hk=>by rw[Hp.upd_ne _ _ (by omega)]) ?_;simp[addJ_one];(first | refine hK _ _ _ ?_ | done);clear K' hK;refine aw_gen (fun s X ny=>s 0=.ptr W 0∧s 6=.row (nx+1) u.length∧s 7=iV (liftCode t n)∧ny=nx+2∧X W=some (.var 139 (workC root L x))∧X (nx+1)=some (.row 58 (flat Pl.cells u))∧∀k,k<nx→X k=G k) ?_ ?_
 ·have n2:¬W=nx+1:=(by omega);exact⟨by simp,by simp,by simp,by simp,by simp[n1,n2,hW],by simp,fun k hk=>by rw[Hp.upd_ne _ _ (by omega),Hp.upd_ne _ _ (by omega)]⟩
 rintro s X ny ⟨s0,s6,s7,rfl,xW,xr,hX⟩;have hT:treeOf Tryz.prog X (.row (nx+1) u.length)=some (rowT Pl.cells u):=treeOf_of xr c58 rfl;have sV:seesA Tryz.prog X [.agg root.cells,rowT Man.cells L,.row (nx+1) u.length]=some [.agg root.cells,rowT Man.cells L,rowT Pl.cells u]:=by
  simp only[seesA,seeA,lookA,hT];rfl
 by_cases c0:liftCode t n=0
 ·(repeat with_reducible refine aA ?_);(first | with_reducible refine aQ fun K' hK=> ?_ | with_reducible refine aT fun K' hK=> ?_);simp[s0,s6,s7,c0,xW];refine acall_flat hV rfl sV ?_;simp;(first | refine hK _ _ _ ?_ | done);clear K' hK;(repeat with_reducible refine aA ?_);(first | with_reducible refine aw_ret ?_ | with_reducible refine aw_retL ?_ | with_reducible refine aw_skipL ?_);simp[blockK,loopK,Post,resA,res1,expT,expA,exp1,expM,expL,okT,okA,ok1,rowOf,Tryz.f118];have:=hK X (nx+2) (nx+1) (by omega) hX xr (by omega) (by omega);rw[hR]at this;simpa [c0]using this
 ·(repeat with_reducible refine aA ?_);(first | with_reducible refine aQ fun K' hK=> ?_ | with_reducible refine aT fun K' hK=> ?_);simp(maxSteps:=1000000) [s0,s6,s7,c0,xW];(first | refine hK _ _ _ ?_ | done);clear K' hK;(repeat with_reducible refine aA ?_);(first | with_reducible refine aw_ret ?_ | with_reducible refine aw_retL ?_ | with_reducible refine aw_skipL ?_);simp[blockK,loopK,Post,resA,res1,expT,expA,exp1,expM,expL,okT,okA,ok1,rowOf,Tryz.f118];have:=hK X (nx+2) (nx+1) (by omega) hX xr (by omega) (by omega);rw[hR]at this;simpa [c0]using this
theorem firstN_no {k:Nat} {p:Nat→Bool} (h:∀j,j<k→p j=false):firstN k p=none:=by
 unfold firstN;rw[List.find?_eq_none];intro x hx;rw[h x (List.mem_range.1 hx)];simp
theorem firstN_is {i:Nat} {p:Nat→Bool} (hp:p i=true) (hno:∀j,j<i→p j=false):∀ {k:Nat},i<k→firstN k p=some i
 | k+1,h=>by
  have hs:firstN (k+1) p=(firstN k p).or (if p k=true then some k else none):=by
   unfold firstN;rw[List.range_succ,List.find?_append];congr 1;cases hk:p k<;>simp[hk]
  rw[hs];rcases Nat.lt_or_ge i k with h1 | h1
  ·rw[firstN_is hp hno h1];rfl
  ·have:i=k:=(by omega);subst this;rw[firstN_no hno,hp];rfl
theorem first120 {root:Man} {L:List Man} {t:List Pl} {f:FuncId} {p:Nat→Bool} {R:Nat→List Pl} (hw:∀n:Nat,Way f root L t n (p n) (R n)) {k:Nat} (hk:k≤1000000000) {W:Nat} {x:AV} {G:Hp} {N0:Nat} {K:AV→Hp→Nat→Prop}
  (hW:G W=some (.var 139 (workC root L x))) (hWn:W<N0) (hx:∀(n:Int) (X:Hp),(∀k,k<N0→X k=G k)→seesA Tryz.prog X [x,iV n]=some [rowT Pl.cells t,iV n])
  (hS:∀n X ny r,firstN k p=some n→N0≤ny→(∀j,j<N0→X j=G j)→X r=some (.row 58 (flat Pl.cells (R n)))→N0≤r→r<ny→K (.tup [.row r (R n).length,bV true]) X ny)
  (hN:∀X ny r,firstN k p=none→N0≤ny→(∀j,j<N0→X j=G j)→K (.tup [.row r 0,bV false]) X ny):InlK Tryz.prog 120 [iV k,.mt f [.ptr W 0]] K G N0:=by
 refine inlK mixed Tryz.call120 Tryz.func120 rfl (by rw[Tryz.ntmps120];simp) fun hf=> ?_;rw[Tryz.ntmps120];(repeat with_reducible refine aA ?_);(first | with_reducible refine aR fun K' hK=> ?_ | with_reducible refine aS fun K' hK=> ?_);simp;(first | refine hK _ _ _ ?_ | done);clear K' hK;(repeat with_reducible refine aA ?_);(first | with_reducible refine aR fun K' hK=> ?_ | with_reducible refine aS fun K' hK=> ?_);simp;(first | refine hK _ _ _ ?_ | done);clear K' hK;(repeat with_reducible refine aA ?_);(first | with_reducible refine aw_block ?_ | with_reducible refine aw_toS (aw_block ?_));refine aw_loop (fun s X ny=>s 1=.mt f [.ptr W 0]∧s 10=iV k∧N0≤ny∧(∀j,j<N0→X j=G j)∧∃i:Nat,s 11=iV i∧i≤k∧∀j,j<i→p j=false) (fun s _ _=>match s 11 with | .v (.int _ n)=>k-n.toNat | _=>0) ?_ ?_
 ·exact⟨by simp,by simp,by omega,fun j hj=>by rw[Hp.upd_ne _ _ (by omega)],0,by simp,by omega,fun j hj=>by omega⟩
 rintro s X ny hf2 ⟨s1,s10,hny,hX,i,s11,hi,hno⟩;have hw2:IntKind.i64.wrap (↑i+1)=((i+1:Nat):Int):=wrapS (by omega);(repeat with_reducible refine aA ?_);(first | with_reducible refine aR fun K' hK=> ?_ | with_reducible refine aS fun K' hK=> ?_);simp[s10,s11];(first | refine hK _ _ _ ?_ | done);clear K' hK;(repeat with_reducible refine aA ?_);(first | with_reducible refine aC fun A B hA hB=> ?_ | with_reducible refine aD fun A B hA hB=> ?_);simp;refine⟨fun hi2=>hA ?_,fun hi2=>hB ?_⟩<;>clear hA hB A B<;>(try simp at hi2)<;>(try with_reducible refine aK ?_)
 ·(repeat with_reducible refine aA ?_);(first | with_reducible refine aw_block ?_ | with_reducible refine aw_toS (aw_block ?_));(repeat with_reducible refine aA ?_);(first | with_reducible refine aR fun K' hK=> ?_ | with_reducible refine aS fun K' hK=> ?_);simp[s11];(first | refine hK _ _ _ ?_ | done);clear K' hK;(repeat with_reducible refine aA ?_);(first | with_reducible refine aR fun K' hK=> ?_ | with_reducible refine aS fun K' hK=> ?_);simp[s1];refine acall_inlK (hw i W x _ _ _ ((hX W hWn).trans hW) (by omega) (fun Y hY=>hx i Y fun j hj=>(hY j (by omega)).trans (hX j hj)) ?_);rintro Y nz r hnz hY hYr hr1 hr2;simp[thenK];(first | refine hK _ _ _ ?_ | done);clear K' hK;cases hp:p i with
  | true=>
   (repeat with_reducible refine aA ?_);(first | with_reducible refine aR fun K' hK=> ?_ | with_reducible refine aS fun K' hK=> ?_);simp;(first | refine hK _ _ _ ?_ | done);clear K' hK;repeat with_reducible refine aA ?_
   (first | with_reducible refine aC fun A B hA hB=> ?_ | with_reducible refine aD fun A B hA hB=> ?_)
   simp;refine⟨fun hc=>hA ?_,fun hc=>hB ?_⟩<;>clear hA hB A B<;>(try (simp at hc;done))<;>(try (exfalso;simp at hc;omega))<;>clear hc<;>(try with_reducible refine aK ?_);(repeat with_reducible refine aA ?_);(first | with_reducible refine aR fun K' hK=> ?_ | with_reducible refine aS fun K' hK=> ?_);simp;(first | refine hK _ _ _ ?_ | done);clear K' hK;(repeat with_reducible refine aA ?_);(first | with_reducible refine aw_ret ?_ | with_reducible refine aw_retL ?_ | with_reducible refine aw_skipL ?_);simp[blockK,loopK,Post,resA,res1,expT,expA,exp1,expM,expL,okT,okA,ok1,rowOf,Tryz.f120];exact hS i Y nz r (firstN_is hp hno hi2) (by omega) (fun j hj=>(hY j (by omega)).trans (hX j hj)) hYr (by omega) hr2
  | false=>
   (repeat with_reducible refine aA ?_);(first | with_reducible refine aR fun K' hK=> ?_ | with_reducible refine aS fun K' hK=> ?_);simp;(first | refine hK _ _ _ ?_ | done);clear K' hK;repeat with_reducible refine aA ?_
   (first | with_reducible refine aC fun A B hA hB=> ?_ | with_reducible refine aD fun A B hA hB=> ?_)
   simp;refine⟨fun hc=>hA ?_,fun hc=>hB ?_⟩<;>clear hA hB A B<;>(try (simp at hc;done))<;>(try (exfalso;simp at hc;omega))<;>clear hc<;>(try with_reducible refine aK ?_);(first | with_reducible refine aw_skipL ?_ | skip);refine blockK_normal ?_;(repeat with_reducible refine aA ?_);(first | with_reducible refine aR fun K' hK=> ?_ | with_reducible refine aS fun K' hK=> ?_);simp[s11,hw2];(first | refine hK _ _ _ ?_ | done);clear K' hK;refine aw_skipL (loopK_normal ?_ ?_)
   ·exact⟨by simp[s1],by simp[s10],by omega,fun j hj=>(hY j (by omega)).trans (hX j hj),i+1,by simp[hw2],by omega,fun j hj=>by
     rcases Nat.lt_or_ge j i with h | h
     ·exact hno j h
     ·have:j=i:=(by omega);subst this;exact hp⟩
   ·simp[s11,hw2];omega
 ·(repeat with_reducible refine aA ?_);(first | with_reducible refine aw_exit ?_ | with_reducible refine aw_exitL ?_);refine loopK_exit (blockK_exit ?_);(repeat with_reducible refine aA ?_);(first | with_reducible refine aR fun K' hK=> ?_ | with_reducible refine aS fun K' hK=> ?_);simp;(first | refine hK _ _ _ ?_ | done);clear K' hK;(repeat with_reducible refine aA ?_);(first | with_reducible refine aR fun K' hK=> ?_ | with_reducible refine aS fun K' hK=> ?_);simp;(first | refine hK _ _ _ ?_ | done);clear K' hK;(repeat with_reducible refine aA ?_);(first | with_reducible refine aw_ret ?_ | with_reducible refine aw_retL ?_ | with_reducible refine aw_skipL ?_);simp[blockK,loopK,Post,resA,res1,expT,expA,exp1,expM,expL,okT,okA,ok1,rowOf,Tryz.f120];exact hN _ _ _ (firstN_no fun j hj=>hno j (by omega)) (by omega) (fun j hj=>by repeat first | exact hX j hj | rw[Hp.upd_ne _ _ (by omega)])
open Go Go.RowKit
section
variable {P:Program} [Gl P] {N:Nat} {K:Exit→KS} {s:Sl} {G:Hp} {nx:Nat}
open Classical in
noncomputable def leastM (I:Nat→KS) (s:Sl) (G:Hp) (nx:Nat):Nat:=if h:∃m,I m s G nx then Classical.choose (exists_min h)else 0
theorem leastM_is {I:Nat→KS} (h:∃m,I m s G nx):I (leastM I s G nx) s G nx:=by
 unfold leastM;rw[dif_pos h];exact(Classical.choose_spec (exists_min h)).1
theorem leastM_le {I:Nat→KS} {k:Nat} (h:I k s G nx):leastM I s G nx≤k:=by
 unfold leastM;rw[dif_pos ⟨k,h⟩];exact(Classical.choose_spec (exists_min ⟨k,h⟩)).2 k h
theorem aw_loopM {a:Code} (I:Nat→KS) (m:Nat) (h0:I m s G nx) (h:∀m s G nx,FreshFrom G nx→I m s G nx→AW P N a (loopK (fun s G nx=>∃m,I m s G nx) m (leastM I) K) s G nx):AW P N (.loop a) K s G nx:=
 aw_loop _ (leastM I) ⟨m,h0⟩ fun s G nx hf hI=>h _ s G nx hf (leastM_is hI)
theorem loopK_less {I:Nat→KS} {m:Nat} (k:Nat) (hk:k<m) (h:I k s G nx):loopK (fun s G nx=>∃m,I m s G nx) m (leastM I) K .normal s G nx:=
 loopK_normal ⟨k,h⟩ (Nat.lt_of_le_of_lt (leastM_le h) hk)
end
set_option maxRecDepth 100000
set_option maxHeartbeats 4000000
theorem by115_ok {f:FuncId} {p:Bool} {R:List Pl} (root:Man) (L:List Man) (t:List Pl) (n:Int) (hsz:ValSz root L t) (hw:Way f root L t n p R):CallsOK Tryz.prog 115 [.agg root.cells,rowT Man.cells L,rowT Pl.cells t,iV n,.fn f []] (bV (validN root L t&&p)) []:=by
 refine callsOK mixed Tryz.call115 Tryz.func115 rfl (by rw[Tryz.ntmps115];simp) ?_ rfl;rw[Tryz.ntmps115];(repeat with_reducible refine aA ?_);(first | with_reducible refine aR fun K' hK=> ?_ | with_reducible refine aS fun K' hK=> ?_);simp;(first | refine hK _ _ _ ?_ | done);clear K' hK;(repeat with_reducible refine aA ?_);(first | with_reducible refine aR fun K' hK=> ?_ | with_reducible refine aS fun K' hK=> ?_);simp;refine acall_flat (valid38_ok root L t hsz) rfl (by first | rfl | (simp;done) | (simp;rfl) | (simp;exact⟨rfl,rfl⟩)) ?_;simp;(first | refine hK _ _ _ ?_ | done);clear K' hK;cases hv:validN root L t with
 | false=>
  repeat with_reducible refine aA ?_
  (first | with_reducible refine aC fun A B hA hB=> ?_ | with_reducible refine aD fun A B hA hB=> ?_)
  simp;refine⟨fun hc=>hA ?_,fun hc=>hB ?_⟩<;>clear hA hB A B<;>(try (simp at hc;done))<;>(try (exfalso;simp at hc;omega))<;>clear hc<;>(try with_reducible refine aK ?_);(repeat with_reducible refine aA ?_);(first | with_reducible refine aR fun K' hK=> ?_ | with_reducible refine aS fun K' hK=> ?_);simp;(first | refine hK _ _ _ ?_ | done);clear K' hK;(repeat with_reducible refine aA ?_);(first | with_reducible refine aw_ret ?_ | with_reducible refine aw_retL ?_ | with_reducible refine aw_skipL ?_);simp[blockK,loopK,Post,resA,res1,expT,expA,exp1,expM,expL,okT,okA,ok1,rowOf,Tryz.f115]
 | true=>
  repeat with_reducible refine aA ?_
  (first | with_reducible refine aC fun A B hA hB=> ?_ | with_reducible refine aD fun A B hA hB=> ?_)
  simp;refine⟨fun hc=>hA ?_,fun hc=>hB ?_⟩<;>clear hA hB A B<;>(try (simp at hc;done))<;>(try (exfalso;simp at hc;omega))<;>clear hc<;>(try with_reducible refine aK ?_);have hwc:(AV.agg root.cells).cells++[rowT Man.cells L,rowT Pl.cells t]=workC root L (rowT Pl.cells t):=rfl;have hwo:(workC root L (rowT Pl.cells t)).all AV.one=true:=rfl;(repeat with_reducible refine aA ?_);(first | with_reducible refine aR fun K' hK=> ?_ | with_reducible refine aS fun K' hK=> ?_);simp;refine acall_inlK (hw 1 (rowT Pl.cells t) _ _ _ (by simp;rfl) (by omega) (fun X hX=>by rfl) ?_);rintro X ny r hny hX hr hr1 hr2;simp[thenK];(first | refine hK _ _ _ ?_ | done);clear K' hK;(repeat with_reducible refine aA ?_);(first | with_reducible refine aR fun K' hK=> ?_ | with_reducible refine aS fun K' hK=> ?_);simp;(first | refine hK _ _ _ ?_ | done);clear K' hK;(repeat with_reducible refine aA ?_);(first | with_reducible refine aw_ret ?_ | with_reducible refine aw_retL ?_ | with_reducible refine aw_skipL ?_);simp[blockK,loopK,Post,resA,res1,expT,expA,exp1,expM,expL,okT,okA,ok1,rowOf,Tryz.f115]
theorem cuts61_ok (root:Man) (L:List Man) (t:List Pl) (n:Int) (hsz:ValSz root L t):CallsOK Tryz.prog 61 [.agg root.cells,rowT Man.cells L,rowT Pl.cells t,iV n] (bV (validN root L t&&cutsZ root L t n)) []:=by
 refine callsOK mixed Tryz.call61 Tryz.func61 rfl (by rw[Tryz.ntmps61];simp) ?_ rfl;rw[Tryz.ntmps61];(repeat with_reducible refine aA ?_);(first | with_reducible refine aR fun K' hK=> ?_ | with_reducible refine aS fun K' hK=> ?_);simp;(first | refine hK _ _ _ ?_ | done);clear K' hK;(repeat with_reducible refine aA ?_);(first | with_reducible refine aR fun K' hK=> ?_ | with_reducible refine aS fun K' hK=> ?_);simp;refine acall_flat (by115_ok root L t n hsz (way_cut hsz n)) rfl (by first | rfl | (simp;done) | (simp;rfl) | (simp;exact⟨rfl,rfl⟩)) ?_;simp;(first | refine hK _ _ _ ?_ | done);clear K' hK;(repeat with_reducible refine aA ?_);(first | with_reducible refine aw_ret ?_ | with_reducible refine aw_retL ?_ | with_reducible refine aw_skipL ?_);simp[blockK,loopK,Post,resA,res1,expT,expA,exp1,expM,expL,okT,okA,ok1,rowOf,Tryz.f61]
theorem lifts63_ok (root:Man) (L:List Man) (t:List Pl) (n:Int) (hsz:ValSz root L t):CallsOK Tryz.prog 63 [.agg root.cells,rowT Man.cells L,rowT Pl.cells t,iV n] (bV (validN root L t&&liftsZ root L t n)) []:=by
 refine callsOK mixed Tryz.call63 Tryz.func63 rfl (by rw[Tryz.ntmps63];simp) ?_ rfl;rw[Tryz.ntmps63];(repeat with_reducible refine aA ?_);(first | with_reducible refine aR fun K' hK=> ?_ | with_reducible refine aS fun K' hK=> ?_);simp;(first | refine hK _ _ _ ?_ | done);clear K' hK;(repeat with_reducible refine aA ?_);(first | with_reducible refine aR fun K' hK=> ?_ | with_reducible refine aS fun K' hK=> ?_);simp;refine acall_flat (by115_ok root L t n hsz (way_lift hsz n)) rfl (by first | rfl | (simp;done) | (simp;rfl) | (simp;exact⟨rfl,rfl⟩)) ?_;simp;(first | refine hK _ _ _ ?_ | done);clear K' hK;(repeat with_reducible refine aA ?_);(first | with_reducible refine aw_ret ?_ | with_reducible refine aw_retL ?_ | with_reducible refine aw_skipL ?_);simp[blockK,loopK,Post,resA,res1,expT,expA,exp1,expM,expL,okT,okA,ok1,rowOf,Tryz.f63]
theorem dedR_off {root:Man} {L:List Man} {t:List Pl} (h:¬dedCode root L t=0):dedR root L t=[]:=by unfold dedR;rw[if_neg h]
theorem dedupe66_ok (root:Man) (L:List Man) (t:List Pl) (hsz:ValSz root L t):CallsOK Tryz.prog 66 [.agg root.cells,rowT Man.cells L,rowT Pl.cells t] (.tup [.row 0 (dedR root L t).length,iV (dedCode root L t)]) [(58,flat Pl.cells (dedR root L t))]:=by
 refine callsOK mixed Tryz.call66 Tryz.func66 rfl (by rw[Tryz.ntmps66];simp) ?_ rfl;rw[Tryz.ntmps66];have hW:=wrong35_ok root L t hsz;have hfm:=wrongR_form root L t;have hwO:wrongO root L t=if codeV root L t=0 then wrongL root L t else[]:=rfl;have htl:=hsz.2.2.2.2.1.1;(repeat with_reducible refine aA ?_);(first | with_reducible refine aR fun K' hK=> ?_ | with_reducible refine aS fun K' hK=> ?_);simp;(first | refine hK _ _ _ ?_ | done);clear K' hK;(repeat with_reducible refine aA ?_);first | refine aw_cut (fun s G nx=>s 1=rowT Man.cells L∧s 2=rowT Pl.cells t∧s 3=.ptr 0 0∧G 0=some (.var 27 root.cells)∧s 9=iV (codeV root L t)∧RowJ nx G (s 8) (wrongO root L t)∧0<nx) ?_ ?_ | refine aw_toS (aw_cut (fun s G nx=>s 1=rowT Man.cells L∧s 2=rowT Pl.cells t∧s 3=.ptr 0 0∧G 0=some (.var 27 root.cells)∧s 9=iV (codeV root L t)∧RowJ nx G (s 8) (wrongO root L t)∧0<nx) ?_ ?_)
 ·rcases hfm with⟨hw0,hfm⟩ | hfm
  ·rw[hfm]at hW;(repeat with_reducible refine aA ?_);(first | with_reducible refine aR fun K' hK=> ?_ | with_reducible refine aS fun K' hK=> ?_);simp;refine acall_new hW (by first | rfl | (simp;done) | (simp;rfl) | (simp;exact⟨rfl,rfl⟩)) ?_;simp[addJ_nil];(first | refine hK _ _ _ ?_ | done);clear K' hK;with_reducible refine aw_end ?_
   exact⟨by simp,by simp,by simp,by simp,by simp,.inl ⟨by simp,hw0⟩,by omega⟩
  ·rw[hfm]at hW;(repeat with_reducible refine aA ?_);(first | with_reducible refine aR fun K' hK=> ?_ | with_reducible refine aS fun K' hK=> ?_);simp;refine acall_new hW (by first | rfl | (simp;done) | (simp;rfl) | (simp;exact⟨rfl,rfl⟩)) ?_;simp[addJ_one];(first | refine hK _ _ _ ?_ | done);clear K' hK;with_reducible refine aw_end ?_
   exact⟨by simp,by simp,by simp,by simp,by simp,.inr ⟨2,by simp,by omega,by simp⟩,by omega⟩
 clear hW hfm;rintro s G n0 ⟨s1,s2,s3,g0,s9,hrow,hn0⟩;(repeat with_reducible refine aA ?_);refine aw_cutR (fun s' G' nx'=>codeV root L t=0∧wrongL root L t=[]∧s' 1=rowT Man.cells L∧s' 2=rowT Pl.cells t∧s' 3=.ptr 0 0∧G' 0=some (.var 27 root.cells)∧0<nx') ?_ ?_
 ·(repeat with_reducible refine aA ?_);(first | with_reducible refine aw_block ?_ | with_reducible refine aw_toS (aw_block ?_));by_cases c0:codeV root L t=0
  ·rw[if_pos c0]at hwO;rw[hwO]at hrow;(repeat with_reducible refine aA ?_);(first | with_reducible refine aR fun K' hK=> ?_ | with_reducible refine aS fun K' hK=> ?_);simp[s9,c0];(first | refine hK _ _ _ ?_ | done);clear K' hK;repeat with_reducible refine aA ?_
   (first | with_reducible refine aC fun A B hA hB=> ?_ | with_reducible refine aD fun A B hA hB=> ?_)
   simp;refine⟨fun hc=>hA ?_,fun hc=>hB ?_⟩<;>clear hA hB A B<;>(try (simp at hc;done))<;>(try (exfalso;simp at hc;omega))<;>clear hc<;>(try with_reducible refine aK ?_);by_cases c1:wrongL root L t=[]
   ·rw[c1]at hrow;rcases hrow with⟨h8,_⟩ | ⟨r,h8,hr,hG⟩
    ·(repeat with_reducible refine aA ?_);(first | with_reducible refine aR fun K' hK=> ?_ | with_reducible refine aS fun K' hK=> ?_);simp[h8];(first | refine hK _ _ _ ?_ | done);clear K' hK;repeat with_reducible refine aA ?_
     (first | with_reducible refine aC fun A B hA hB=> ?_ | with_reducible refine aD fun A B hA hB=> ?_)
     simp;refine⟨fun hc=>hA ?_,fun hc=>hB ?_⟩<;>clear hA hB A B<;>(try (simp at hc;done))<;>(try (exfalso;simp at hc;omega))<;>clear hc<;>(try with_reducible refine aK ?_);(first | with_reducible refine aw_skipL ?_ | skip);refine blockK_normal ?_;with_reducible refine aw_endR ?_
     exact⟨c0,c1,by simp[s1],by simp[s2],by simp[s3],g0,hn0⟩
    ·(repeat with_reducible refine aA ?_);(first | with_reducible refine aR fun K' hK=> ?_ | with_reducible refine aS fun K' hK=> ?_);simp[h8,hG];(first | refine hK _ _ _ ?_ | done);clear K' hK;repeat with_reducible refine aA ?_
     (first | with_reducible refine aC fun A B hA hB=> ?_ | with_reducible refine aD fun A B hA hB=> ?_)
     simp;refine⟨fun hc=>hA ?_,fun hc=>hB ?_⟩<;>clear hA hB A B<;>(try (simp at hc;done))<;>(try (exfalso;simp at hc;omega))<;>clear hc<;>(try with_reducible refine aK ?_);(first | with_reducible refine aw_skipL ?_ | skip);refine blockK_normal ?_;with_reducible refine aw_endR ?_
     exact⟨c0,c1,by simp[s1],by simp[s2],by simp[s3],g0,hn0⟩
   ·have hc:dedCode root L t=1:=(by unfold dedCode;rw[if_neg (by simp[c0]),if_neg c1]);rw[dedR_off (by rw[hc];decide),hc];rcases hrow with⟨_,h⟩ | ⟨r,h8,hr,hG⟩
    ·exact absurd h c1
    ·have hpos:(0:Int)<(wrongL root L t).length:=by
      have:=List.length_pos_iff.2 c1;omega
     have hposN:=List.length_pos_iff.2 c1;(repeat with_reducible refine aA ?_);(first | with_reducible refine aR fun K' hK=> ?_ | with_reducible refine aS fun K' hK=> ?_);simp[h8,hG,hpos,hposN];(first | refine hK _ _ _ ?_ | done);clear K' hK;repeat with_reducible refine aA ?_
     (first | with_reducible refine aC fun A B hA hB=> ?_ | with_reducible refine aD fun A B hA hB=> ?_)
     simp;refine⟨fun hc=>hA ?_,fun hc=>hB ?_⟩<;>clear hA hB A B<;>(try (simp at hc;done))<;>(try (exfalso;simp at hc;omega))<;>clear hc<;>(try with_reducible refine aK ?_);(repeat with_reducible refine aA ?_);(first | with_reducible refine aR fun K' hK=> ?_ | with_reducible refine aS fun K' hK=> ?_);simp;(first | refine hK _ _ _ ?_ | done);clear K' hK;(repeat with_reducible refine aA ?_);(first | with_reducible refine aw_ret ?_ | with_reducible refine aw_retL ?_ | with_reducible refine aw_skipL ?_);simp[blockK,loopK,Post,resA,res1,expT,expA,exp1,expM,expL,okT,okA,ok1,rowOf,Tryz.f66,cutK]
  ·have hc:dedCode root L t=codeV root L t:=(by unfold dedCode;rw[if_pos c0]);rw[dedR_off (by rw[hc];exact c0),hc];(repeat with_reducible refine aA ?_);(first | with_reducible refine aR fun K' hK=> ?_ | with_reducible refine aS fun K' hK=> ?_);simp[s9,c0];(first | refine hK _ _ _ ?_ | done);clear K' hK;repeat with_reducible refine aA ?_
   (first | with_reducible refine aC fun A B hA hB=> ?_ | with_reducible refine aD fun A B hA hB=> ?_)
   simp;refine⟨fun hc=>hA ?_,fun hc=>hB ?_⟩<;>clear hA hB A B<;>(try (simp at hc;done))<;>(try (exfalso;simp at hc;omega))<;>clear hc<;>(try with_reducible refine aK ?_);(repeat with_reducible refine aA ?_);(first | with_reducible refine aR fun K' hK=> ?_ | with_reducible refine aS fun K' hK=> ?_);simp[s9];(first | refine hK _ _ _ ?_ | done);clear K' hK;(repeat with_reducible refine aA ?_);(first | with_reducible refine aw_ret ?_ | with_reducible refine aw_retL ?_ | with_reducible refine aw_skipL ?_);simp[blockK,loopK,Post,resA,res1,expT,expA,exp1,expM,expL,okT,okA,ok1,rowOf,Tryz.f66,cutK]
 clear hrow s1 s2 s3 g0 s9 hn0 hwO s G n0;rintro s G n1 ⟨c0,c1,s1,s2,s3,g0,hn1⟩;have hc:dedCode root L t=0:=(by unfold dedCode;rw[if_neg (by simp[c0]),if_pos c1]);have hR:dedR root L t=dedT root L t:=(by unfold dedR;rw[if_pos hc]);rw[hc,hR];have hv:=dedCode_zero.1 hc;have hne:t≠[]:=List.ne_nil_of_length_pos (check_iff.1 (codeV_zero.1 c0).2.2).pos;have c58:Tryz.prog.cellsOf 58=6:=(by kernel_rfl);have e0:¬0=n1:=(by omega);(repeat with_reducible refine aA ?_);(first | with_reducible refine aQ fun K' hK=> ?_ | with_reducible refine aT fun K' hK=> ?_);simp[s1,s2,s3,g0];refine acall_new (clone35_ok t (by omega) hne) (by first | rfl | (simp;done) | (simp;rfl) | (simp;exact⟨rfl,rfl⟩)) ?_;simp[addJ_one,s1,s2,s3,g0,e0];(first | refine hK _ _ _ ?_ | done);clear K' hK;refine aw_gen (fun u X nz=>u 10=.ptr (n1+1) 0∧nz=n1+2∧X (n1+1)=some (.var 139 (workC root L (.row n1 t.length)))∧X n1=some (.row 58 (flat Pl.cells t))) ?_ ?_
 ·have e1:¬n1=n1+1:=(by omega);refine⟨by simp,by simp,?_,by simp[e1]⟩;simp;rfl
 clear s1 s2 s3 g0 e0 hn1 hne c1 s G;rintro s G nz ⟨s10,rfl,gW,gq⟩;generalize hWe:n1+1=W at*;(repeat with_reducible refine aA ?_);(first | with_reducible refine aw_block ?_ | with_reducible refine aw_toS (aw_block ?_));refine aw_loopM (fun m s G nx=>s 10=.ptr W 0∧∃(u:List Pl) (q:Nat),G W=some (.var 139 (workC root L (.row q u.length)))∧G q=some (.row 58 (flat Pl.cells u))∧W<nx∧q<nx∧ValSz root L u∧validN root L u=true∧dedT root L u=dedT root L t∧mT u=m) (mT t) ?_ ?_
 ·exact⟨s10,t,n1,gW,gq,by omega,by omega,hsz,hv,rfl,rfl⟩
 clear s10 gW gq hv hWe s G n1 hc hR c0;rintro m s G nx-⟨s10,u,q,gW,gq,hWn,hqn,hszu,hvu,hdt,rfl⟩;have hul:=hszu.2.2.2.2.1.1;have hsx:∀(n:Int) (X:Hp),(∀k,k<nx→X k=G k)→seesA Tryz.prog X [.row q u.length,iV n]=some [rowT Pl.cells u,iV n]:=fun n X hX=>by
  have:=treeOf_of (P:=Tryz.prog) ((hX q hqn).trans gq) c58 rfl;simp only[seesA,seeA,lookA,this]
 have spl:∀a b:AV,List.take 8 (workC root L a)++b::List.drop 9 (workC root L a)=workC root L b:=fun a b=>rfl;(repeat with_reducible refine aA ?_);(first | with_reducible refine aw_block ?_ | with_reducible refine aw_toS (aw_block ?_));(repeat with_reducible refine aA ?_);(first | with_reducible refine aR fun K' hK=> ?_ | with_reducible refine aS fun K' hK=> ?_);simp[s10,gW,gq];refine acall_inlK (first120 (p:=cutsV root L u) (R:=fun n=>cutR u n) (fun n=>way_cut hszu n) hul gW hWn hsx ?_ ?_)
 ·intro n X ny r hf hny hX hr hr1 hr2;obtain⟨hnl,hcv⟩:=firstN_some hf;have hds:dedS root L u=some (cutR u n):=(by unfold dedS;rw[hf]);obtain⟨hv2,hm2⟩:=dedS_some hds;have xW:=(hX W hWn).trans gW;have e1:¬r=W:=(by omega);simp[thenK];(first | refine hK _ _ _ ?_ | done);clear K' hK;(repeat with_reducible refine aA ?_);(first | with_reducible refine aR fun K' hK=> ?_ | with_reducible refine aS fun K' hK=> ?_);simp;(first | refine hK _ _ _ ?_ | done);clear K' hK;repeat with_reducible refine aA ?_
  (first | with_reducible refine aC fun A B hA hB=> ?_ | with_reducible refine aD fun A B hA hB=> ?_)
  simp;refine⟨fun hc=>hA ?_,fun hc=>hB ?_⟩<;>clear hA hB A B<;>(try (simp at hc;done))<;>(try (exfalso;simp at hc;omega))<;>clear hc<;>(try with_reducible refine aK ?_);(repeat with_reducible refine aA ?_);(first | with_reducible refine aR fun K' hK=> ?_ | with_reducible refine aS fun K' hK=> ?_);simp;(first | refine hK _ _ _ ?_ | done);clear K' hK;repeat with_reducible refine aA ?_
  (first | with_reducible refine aC fun A B hA hB=> ?_ | with_reducible refine aD fun A B hA hB=> ?_)
  simp;refine⟨fun hc=>hA ?_,fun hc=>hB ?_⟩<;>clear hA hB A B<;>(try (simp at hc;done))<;>(try (exfalso;simp at hc;omega))<;>clear hc<;>(try with_reducible refine aK ?_);(repeat with_reducible refine aA ?_);(first | with_reducible refine aR fun K' hK=> ?_ | with_reducible refine aS fun K' hK=> ?_);simp[s10,xW,spl];(first | refine hK _ _ _ ?_ | done);clear K' hK;(first | with_reducible refine aw_skipL ?_ | skip);refine blockK_normal ?_;refine aw_skipL (loopK_less _ hm2 ?_);exact⟨by simp[s10],cutR u n,r,by simp,by simp[e1,hr],by omega,hr2,cut_sz hszu,hv2,(dedT_some hds).symm.trans hdt,rfl⟩
 ·intro X ny r hf hny hX;have xW:=(hX W hWn).trans gW;have xq:=(hX q hqn).trans gq;have hsx2:∀(n:Int) (Y:Hp),(∀k,k<ny→Y k=X k)→seesA Tryz.prog Y [.row q u.length,iV n]=some [rowT Pl.cells u,iV n]:=fun n Y hY=>hsx n Y fun k hk=>(hY k (by omega)).trans (hX k hk);simp[thenK];(first | refine hK _ _ _ ?_ | done);clear K' hK;(repeat with_reducible refine aA ?_);(first | with_reducible refine aR fun K' hK=> ?_ | with_reducible refine aS fun K' hK=> ?_);simp;(first | refine hK _ _ _ ?_ | done);clear K' hK;repeat with_reducible refine aA ?_
  (first | with_reducible refine aC fun A B hA hB=> ?_ | with_reducible refine aD fun A B hA hB=> ?_)
  simp;refine⟨fun hc=>hA ?_,fun hc=>hB ?_⟩<;>clear hA hB A B<;>(try (simp at hc;done))<;>(try (exfalso;simp at hc;omega))<;>clear hc<;>(try with_reducible refine aK ?_);(repeat with_reducible refine aA ?_);(first | with_reducible refine aR fun K' hK=> ?_ | with_reducible refine aS fun K' hK=> ?_);simp[s10,xW,xq];refine acall_inlK (first120 (p:=liftsV root L u) (R:=fun n=>liftR u n) (fun n=>way_lift hszu n) hul xW (by omega) hsx2 ?_ ?_)
  ·intro n Y nz r2 hf2 hnz hY hr hr1 hr2;have hds:dedS root L u=some (liftR u n):=(by unfold dedS;rw[hf,hf2]);obtain⟨hv2,hm2⟩:=dedS_some hds;have yW:=(hY W (by omega)).trans xW;have e1:¬r2=W:=(by omega);simp[thenK];(first | refine hK _ _ _ ?_ | done);clear K' hK;(repeat with_reducible refine aA ?_);(first | with_reducible refine aR fun K' hK=> ?_ | with_reducible refine aS fun K' hK=> ?_);simp;(first | refine hK _ _ _ ?_ | done);clear K' hK;repeat with_reducible refine aA ?_
   (first | with_reducible refine aC fun A B hA hB=> ?_ | with_reducible refine aD fun A B hA hB=> ?_)
   simp;refine⟨fun hc=>hA ?_,fun hc=>hB ?_⟩<;>clear hA hB A B<;>(try (simp at hc;done))<;>(try (exfalso;simp at hc;omega))<;>clear hc<;>(try with_reducible refine aK ?_);(repeat with_reducible refine aA ?_);(first | with_reducible refine aR fun K' hK=> ?_ | with_reducible refine aS fun K' hK=> ?_);simp[s10,yW,spl];(first | refine hK _ _ _ ?_ | done);clear K' hK;(first | with_reducible refine aw_skipL ?_ | skip);refine blockK_normal ?_;refine aw_skipL (loopK_less _ hm2 ?_);exact⟨by simp[s10],liftR u n,r2,by simp,by simp[e1,hr],by omega,hr2,lift_sz hszu,hv2,(dedT_some hds).symm.trans hdt,rfl⟩
  ·intro Y nz r2 hf2 hnz hY;have hds:dedS root L u=none:=(by unfold dedS;rw[hf,hf2]);have yW:=(hY W (by omega)).trans xW;have yq:=(hY q (by omega)).trans xq;have hfin:dedT root L t=u:=(by rw[←hdt];exact dedT_none hds);simp[thenK];(first | refine hK _ _ _ ?_ | done);clear K' hK;(repeat with_reducible refine aA ?_);(first | with_reducible refine aR fun K' hK=> ?_ | with_reducible refine aS fun K' hK=> ?_);simp;(first | refine hK _ _ _ ?_ | done);clear K' hK;repeat with_reducible refine aA ?_
   (first | with_reducible refine aC fun A B hA hB=> ?_ | with_reducible refine aD fun A B hA hB=> ?_)
   simp;refine⟨fun hc=>hA ?_,fun hc=>hB ?_⟩<;>clear hA hB A B<;>(try (simp at hc;done))<;>(try (exfalso;simp at hc;omega))<;>clear hc<;>(try with_reducible refine aK ?_);(repeat with_reducible refine aA ?_);(first | with_reducible refine aR fun K' hK=> ?_ | with_reducible refine aS fun K' hK=> ?_);simp[s10,yW];(first | refine hK _ _ _ ?_ | done);clear K' hK;(repeat with_reducible refine aA ?_);(first | with_reducible refine aw_ret ?_ | with_reducible refine aw_retL ?_ | with_reducible refine aw_skipL ?_);simp[blockK,loopK,Post,resA,res1,expT,expA,exp1,expM,expL,okT,okA,ok1,rowOf,Tryz.f66,yq,hfin]
set_option maxRecDepth 100000
set_option maxHeartbeats 4000000
def lsX:List Man:=[⟨nA,v1,[⟨1,nB,freeR⟩],[]⟩,⟨nB,v1,[],[]⟩]
def lsW:List Pl:=[rootP,⟨0,nA,v1⟩,⟨0,nB,v1⟩]
def lsD:List Pl:=[rootP,⟨0,nA,v1⟩,⟨1,nB,v1⟩]
def lsA:List Pl:=[rootP,⟨0,nA,v1⟩]
def lsB:List Pl:=[rootP,⟨0,nB,v1⟩]
theorem ls_codes:codeV prRoot lsX lsW=0∧codeV prRoot lsX lsD=0∧codeV prRoot lsX prT=0∧codeV prRoot lsX lsA=0∧codeV prRoot lsX lsB=0∧codeV prRoot lsX [rootP]=0:=by decide+kernel
theorem ls_big:bigI lsX=false∧bigT lsW=false∧bigT lsD=false∧bigT [rootP]=false:=by decide+kernel
theorem ls_o0:ofF prRoot.deps prRoot.rules true=prRoot.deps:=of_small (S:=[nA]) (by decide+kernel) (by decide+kernel) (by decide+kernel)
theorem ls_oa:ofF [⟨1,nB,freeR⟩] prRoot.rules false=[⟨1,nB,freeR⟩]:=of_small (S:=[nB]) (by decide+kernel) (by decide+kernel) (by decide+kernel)
theorem ls_ob:ofF [] prRoot.rules false=[]:=of_small (S:=[]) (by decide+kernel) (by decide+kernel) (by decide+kernel)
theorem ls_f0 {t:List Pl} (h:holdsF t 0=true):fineV prRoot lsX t 0=prRoot.deps.all (holdsV t 0):=fine_at (m:=prRoot) (by rw[manVal,if_pos h,if_pos rfl]) ls_o0
theorem ls_fa {t:List Pl} {i:Int} (h:manVal prRoot lsX t i=some ⟨nA,v1,[⟨1,nB,freeR⟩],[]⟩) (hi:decide (i=0)=false):fineV prRoot lsX t i=[(⟨1,nB,freeR⟩:Dep)].all (holdsV t i):=fine_at h (by rw[hi];exact ls_oa)
theorem ls_fb {t:List Pl} {i:Int} (h:manVal prRoot lsX t i=some ⟨nB,v1,[],[]⟩) (hi:decide (i=0)=false):fineV prRoot lsX t i=true:=fine_at (E:=[]) h (by rw[hi];exact ls_ob)
theorem ls_w {t:List Pl} {bl W:List Int} (hb:belowL t 0=bl) (h:(bl.filter fun i=> !fineV prRoot lsX t i)=W):wrongL prRoot lsX t=W:=by rw[wrongL,hb,h]
theorem ls_wW:wrongL prRoot lsX lsW=[]:=by
 have f0:fineV prRoot lsX lsW 0=true:=(ls_f0 (by decide+kernel)).trans (by decide+kernel);have f1:fineV prRoot lsX lsW 1=true:=(ls_fa (by decide+kernel) (by decide)).trans (by decide+kernel);have f2:fineV prRoot lsX lsW 2=true:=ls_fb (by decide+kernel) (by decide);exact ls_w (bl:=[0,1,2]) (by decide+kernel) (by simp[f0,f1,f2])
theorem ls_wD:wrongL prRoot lsX lsD=[]:=by
 have f0:fineV prRoot lsX lsD 0=true:=(ls_f0 (by decide+kernel)).trans (by decide+kernel);have f1:fineV prRoot lsX lsD 1=true:=(ls_fa (by decide+kernel) (by decide)).trans (by decide+kernel);have f2:fineV prRoot lsX lsD 2=true:=ls_fb (by decide+kernel) (by decide);exact ls_w (bl:=[0,1,2]) (by decide+kernel) (by simp[f0,f1,f2])
theorem ls_wT:wrongL prRoot lsX prT=[]:=by
 have f0:fineV prRoot lsX prT 0=true:=(ls_f0 (by decide+kernel)).trans (by decide+kernel);have f1:fineV prRoot lsX prT 1=true:=(ls_fa (by decide+kernel) (by decide)).trans (by decide+kernel);have f2:fineV prRoot lsX prT 2=true:=ls_fb (by decide+kernel) (by decide);have f3:fineV prRoot lsX prT 3=true:=ls_fb (by decide+kernel) (by decide);exact ls_w (bl:=[0,1,2,3]) (by decide+kernel) (by simp[f0,f1,f2,f3])
theorem ls_wA:wrongL prRoot lsX lsA=[1]:=by
 have f0:fineV prRoot lsX lsA 0=true:=(ls_f0 (by decide+kernel)).trans (by decide+kernel);have f1:fineV prRoot lsX lsA 1=false:=(ls_fa (by decide+kernel) (by decide)).trans (by decide+kernel);exact ls_w (bl:=[0,1]) (by decide+kernel) (by simp[f0,f1])
theorem ls_wB:wrongL prRoot lsX lsB=[0]:=by
 have f0:fineV prRoot lsX lsB 0=false:=(ls_f0 (by decide+kernel)).trans (by decide+kernel);have f1:fineV prRoot lsX lsB 1=true:=ls_fb (by decide+kernel) (by decide);exact ls_w (bl:=[0,1]) (by decide+kernel) (by simp[f0,f1])
theorem ls_w0:wrongL prRoot lsX [rootP]=[0]:=by
 have f0:fineV prRoot lsX [rootP] 0=false:=(ls_f0 (by decide+kernel)).trans (by decide+kernel);exact ls_w (bl:=[0]) (by decide+kernel) (by simp[f0])
theorem ls_v:validN prRoot lsX lsW=true∧validN prRoot lsX lsD=true∧validN prRoot lsX prT=true∧validN prRoot lsX lsA=false∧validN prRoot lsX lsB=false∧validN prRoot lsX [rootP]=false:=by
 obtain⟨c1,c2,c3,c4,c5,c6⟩:=ls_codes;simp only[validN,c1,c2,c3,c4,c5,c6,ls_wW,ls_wD,ls_wT,ls_wA,ls_wB,ls_w0];decide
theorem ls_cut:(cutCode lsW 0≠0∧cutR lsW 1=lsB∧cutR lsW 2=lsA)∧(cutCode lsD 0≠0∧cutR lsD 1=[rootP]∧cutR lsD 2=lsA)∧cutCode prT 0≠0∧cutR prT 1=lsB∧cutCode prT 2=0∧cutR prT 2=lsD:=by decide+kernel
theorem ls_lift:(liftCode lsW 0≠0∧liftCode lsW 1≠0∧liftCode lsW 2≠0)∧(liftCode lsD 0≠0∧liftCode lsD 1≠0∧liftCode lsD 2=0∧liftR lsD 2=lsW)∧liftCode prT 3=152∧liftCode prT 1=151:=by decide+kernel
theorem find3 {p:Nat→Bool} :firstN 3 p=if p 0=true then some 0 else if p 1=true then some 1 else if p 2=true then some 2 else none:=by
 show List.find? p [0,1,2]=_;simp only[List.find?_cons,List.find?_nil];cases p 0<;>cases p 1<;>cases p 2<;>rfl
theorem find4 {p:Nat→Bool} :firstN 4 p=if p 0=true then some 0 else if p 1=true then some 1 else if p 2=true then some 2 else if p 3=true then some 3 else none:=by
 show List.find? p [0,1,2,3]=_;simp only[List.find?_cons,List.find?_nil];cases p 0<;>cases p 1<;>cases p 2<;>cases p 3<;>rfl
theorem ls_sW:dedS prRoot lsX lsW=none:=by
 obtain⟨⟨a,b,c⟩,_⟩:=ls_cut;obtain⟨⟨d,e,f⟩,_⟩:=ls_lift;obtain⟨_,_,_,v4,v5,_⟩:=ls_v;have c0:cutsV prRoot lsX lsW 0=false:=(by simp[cutsV,a]);have c1:cutsV prRoot lsX lsW 1=false:=(by simp[cutsV,b,v5]);have c2:cutsV prRoot lsX lsW 2=false:=(by simp[cutsV,c,v4]);have l0:liftsV prRoot lsX lsW 0=false:=(by simp[liftsV,d]);have l1:liftsV prRoot lsX lsW 1=false:=(by simp[liftsV,e]);have l2:liftsV prRoot lsX lsW 2=false:=(by simp[liftsV,f]);have hl:lsW.length=3:=rfl;unfold dedS;rw[hl,find3,find3];simp[c0,c1,c2,l0,l1,l2]
theorem ls_sD:dedS prRoot lsX lsD=some lsW:=by
 obtain⟨_,⟨a,b,c⟩,_⟩:=ls_cut;obtain⟨_,⟨d,e,f,g⟩,_⟩:=ls_lift;obtain⟨v1,_,_,v4,_,v6⟩:=ls_v;have c0:cutsV prRoot lsX lsD 0=false:=(by simp[cutsV,a]);have c1:cutsV prRoot lsX lsD 1=false:=(by simp[cutsV,b,v6]);have c2:cutsV prRoot lsX lsD 2=false:=(by simp[cutsV,c,v4]);have l0:liftsV prRoot lsX lsD 0=false:=(by simp[liftsV,d]);have l1:liftsV prRoot lsX lsD 1=false:=(by simp[liftsV,e]);have l2:liftsV prRoot lsX lsD 2=true:=(by simp[liftsV,f,g,v1]);have hl:lsD.length=3:=rfl;unfold dedS;rw[hl,find3,find3];simp[c0,c1,c2,l0,l1,l2,g]
theorem ls_sT:dedS prRoot lsX prT=some lsD:=by
 obtain⟨_,_,a,b,c,d⟩:=ls_cut;obtain⟨_,v2,_,_,v5,_⟩:=ls_v;have c0:cutsV prRoot lsX prT 0=false:=(by simp[cutsV,a]);have c1:cutsV prRoot lsX prT 1=false:=(by simp[cutsV,b,v5]);have c2:cutsV prRoot lsX prT 2=true:=(by simp[cutsV,c,d,v2]);have hl:prT.length=4:=rfl;unfold dedS;rw[hl,find4];simp[c0,c1,c2,d]
theorem ls_ded:dedCode prRoot lsX lsD=0∧dedR prRoot lsX lsD=lsW∧dedCode prRoot lsX prT=0∧dedR prRoot lsX prT=lsW∧dedCode prRoot lsX [rootP]=1∧dedR prRoot lsX [rootP]=[]:=by
 obtain⟨_,v2,v3,_,_,_⟩:=ls_v;have d1:=dedCode_zero.2 v2;have d2:=dedCode_zero.2 v3;have tW:dedT prRoot lsX lsW=lsW:=dedT_none ls_sW;have tD:dedT prRoot lsX lsD=lsW:=(dedT_some ls_sD).trans tW;have tT:dedT prRoot lsX prT=lsW:=(dedT_some ls_sT).trans tD;have d3:dedCode prRoot lsX [rootP]=1:=by
  unfold dedCode;rw[if_neg (by simp[ls_codes.2.2.2.2.2]),if_neg (by rw[ls_w0];simp)]
 refine⟨d1,by unfold dedR;rw[if_pos d1,tD],d2,by unfold dedR;rw[if_pos d2,tT],d3,by unfold dedR;rw[d3];rfl⟩
theorem ls_ways:(validN prRoot lsX prT&&cutsZ prRoot lsX prT 2)=true∧(validN prRoot lsX lsD&&cutsZ prRoot lsX lsD 2)=false∧(validN prRoot lsX lsD&&liftsZ prRoot lsX lsD 2)=true:=by
 obtain⟨v1,v2,v3,v4,_,_⟩:=ls_v;obtain⟨_,⟨_,_,e⟩,_,_,c,d⟩:=ls_cut;obtain⟨_,⟨_,_,f,g⟩,_⟩:=ls_lift;refine⟨by simp[v3,cutsZ,c,d,v2],by simp[cutsZ,e,v4],by simp[v2,liftsZ,f,g,v1]⟩
set_option maxRecDepth 100000
set_option maxHeartbeats 4000000
theorem ls_flat_x:flat Man.cells lsX=[sV nA,iV 1,iV 0,iV 0,sV ⟨#[]⟩,.sl 1 [iV 1,sV nB,.sl 1 [.sl 0 []]],.sl 0 [],sV nB,iV 1,iV 0,iV 0,sV ⟨#[]⟩,.sl 0 [],.sl 0 []]:=rfl
theorem small119_ok:CallsOK Tryz.prog 119 [] (.tup [.agg (prB 0),.row 1 2]) [(35,flat Dep.cells prRoot.deps),(27,flat Man.cells lsX)]:=by
 refine CallsOK.weakJs (J:=[(35,[iV 1,sV nA,.sl 1 [.v (.slice none 0 0)]]),(27,[sV nA,iV 1,iV 0,iV 0,sV ⟨#[]⟩,.sl 1 [iV 1,sV nB,.sl 1 [.v (.slice none 0 0)]],.v (.slice none 0 0),sV nB,iV 1,iV 0,iV 0,sV ⟨#[]⟩,.v (.slice none 0 0),.v (.slice none 0 0)])]) ?_ rfl ?_
 ·refine callsOK mixed Tryz.call119 Tryz.func119 rfl (by rw[Tryz.ntmps119];simp) ?_ rfl;rw[Tryz.ntmps119];(repeat with_reducible refine aA ?_);(first | with_reducible refine aR fun K' hK=> ?_ | with_reducible refine aS fun K' hK=> ?_);simp;(first | refine hK _ _ _ ?_ | done);clear K' hK;(repeat with_reducible refine aA ?_);(first | with_reducible refine aR fun K' hK=> ?_ | with_reducible refine aS fun K' hK=> ?_);simp;(first | refine hK _ _ _ ?_ | done);clear K' hK;(repeat with_reducible refine aA ?_);(first | with_reducible refine aR fun K' hK=> ?_ | with_reducible refine aS fun K' hK=> ?_);simp;(first | refine hK _ _ _ ?_ | done);clear K' hK;(repeat with_reducible refine aA ?_);(first | with_reducible refine aR fun K' hK=> ?_ | with_reducible refine aS fun K' hK=> ?_);simp;(first | refine hK _ _ _ ?_ | done);clear K' hK;(repeat with_reducible refine aA ?_);(first | refine aw_regionL (some 0) [4,2,3] (by decide+kernel) (by decide+kernel) (fun p' hp'=>by cases hp';exact⟨0,0,by simp,by simp[rootA]⟩) fun K' hK=> ?_ | refine aw_toS (aw_regionL (some 0) [4,2,3] (by decide+kernel) (by decide+kernel) (fun p' hp'=>by cases hp';exact⟨0,0,by simp,by simp[rootA]⟩) fun K' hK=> ?_));simp;(first | refine hK _ _ _ ?_ | done);clear K' hK;(repeat with_reducible refine aA ?_);(first | with_reducible refine aw_ret ?_ | with_reducible refine aw_retL ?_ | with_reducible refine aw_skipL ?_);simp[blockK,loopK,Post,resA,res1,expT,expA,exp1,expM,expL,okT,okA,ok1,rowOf,Tryz.f119];exact⟨[5,8],⟨rfl,rfl⟩,by simp[prB],rfl⟩
 ·intro i e cs h
  match i with
  | 0=>
   simp at h;obtain⟨rfl,rfl⟩:=h;rw[pr_flat_d];exact⟨_,rfl,.cons (.refl _) (.cons (.refl _) (.cons (.sl (.cons .nil .nil)) .nil))⟩
  | 1=>
   simp at h;obtain⟨rfl,rfl⟩:=h;rw[ls_flat_x];exact⟨_,rfl,.cons (.refl _) (.cons (.refl _) (.cons (.refl _) (.cons (.refl _) (.cons (.refl _) (.cons (.sl (.cons (.refl _) (.cons (.refl _) (.cons (.sl (.cons .nil .nil)) .nil)))) (.cons .nil (.cons (.refl _) (.cons (.refl _) (.cons (.refl _) (.cons (.refl _) (.cons (.refl _) (.cons .nil (.cons .nil .nil)))))))))))))⟩
  | i+2=>simp at h
def lsA0:List AV:=prA
theorem lessens65_ok:CallsOK Tryz.prog 65 [] (bV true) []:=by
 refine callsOK mixed Tryz.call65 Tryz.func65 rfl (by rw[Tryz.ntmps65];simp) ?_ rfl;rw[Tryz.ntmps65];have c35:Tryz.prog.cellsOf 35=3:=(by kernel_rfl);have c27:Tryz.prog.cellsOf 27=7:=(by kernel_rfl);have c58:Tryz.prog.cellsOf 58=6:=(by kernel_rfl);have szD:ValSz prRoot lsX lsD:=valSz_of pr_big.1 ls_big.1 ls_big.2.2.1;have szT:ValSz prRoot lsX prT:=valSz_of pr_big.1 ls_big.1 pr_big.2.2;have sz0:ValSz prRoot lsX [rootP]:=valSz_of pr_big.1 ls_big.1 ls_big.2.2.2;obtain⟨d1,d2,d3,d4,d5,d6⟩:=ls_ded;obtain⟨w1,w2,w3⟩:=ls_ways;obtain⟨_,⟨_,_,l1,l2⟩,l3,l4⟩:=ls_lift;have hD:=dedupe66_ok _ _ _ szD;rw[d1,d2]at hD;have hD:=hD.weak (.cons wk_pr (.cons (.refl _) (.cons (.refl _) .nil)));have hT:=dedupe66_ok _ _ _ szT;rw[d3,d4]at hT;have hT:=hT.weak (.cons wk_pr (.cons (.refl _) (.cons (.refl _) .nil)));have h0:=dedupe66_ok _ _ _ sz0;rw[d5,d6]at h0;have h0:=h0.weak (.cons wk_pr (.cons (.refl _) (.cons (.refl _) .nil)));have hL1:=lift59_ok lsD szD.2.2.2.2.1 2;rw[l1,l2]at hL1;have hL2:=lift59_ok prT szT.2.2.2.2.1 3;rw[show liftR prT 3=[] from by unfold liftR;rw[l3];rfl,l3]at hL2;have hL3:=lift59_ok prT szT.2.2.2.2.1 1;rw[show liftR prT 1=[] from by unfold liftR;rw[l4];rfl,l4]at hL3;have hC1:=cuts61_ok _ _ _ 2 szT;rw[w1]at hC1;have hC1:=hC1.weak (.cons wk_pr (.cons (.refl _) (.cons (.refl _) (.cons (.refl _) .nil))));have hC2:=cuts61_ok _ _ _ 2 szD;rw[w2]at hC2;have hC2:=hC2.weak (.cons wk_pr (.cons (.refl _) (.cons (.refl _) (.cons (.refl _) .nil))));have hC3:=lifts63_ok _ _ _ 2 szD;rw[w3]at hC3;have hC3:=hC3.weak (.cons wk_pr (.cons (.refl _) (.cons (.refl _) (.cons (.refl _) .nil))));have hS:=pr_same lsW (by decide);clear d1 d2 d3 d4 d5 d6 w1 w2 w3 l1 l2 l3 l4 szD szT sz0;have r3:[0,1,2]=List.range 3:=rfl;have r4:[0,1,2,3]=List.range 4:=rfl;(repeat with_reducible refine aA ?_);(first | with_reducible refine aR fun K' hK=> ?_ | with_reducible refine aS fun K' hK=> ?_);simp;(first | refine hK _ _ _ ?_ | done);clear K' hK;(repeat with_reducible refine aA ?_);(first | with_reducible refine aR fun K' hK=> ?_ | with_reducible refine aS fun K' hK=> ?_);simp;refine acall_new small119_ok (by simp) ?_;simp[addJ_two];(first | refine hK _ _ _ ?_ | done);clear K' hK;(repeat with_reducible refine aA ?_);(first | with_reducible refine aR fun K' hK=> ?_ | with_reducible refine aS fun K' hK=> ?_);simp;(first | refine hK _ _ _ ?_ | done);clear K' hK;(repeat with_reducible refine aA ?_);(first | with_reducible refine aR fun K' hK=> ?_ | with_reducible refine aS fun K' hK=> ?_);simp[r3];(first | refine hK _ _ _ ?_ | done);clear K' hK;(repeat with_reducible refine aA ?_);(first | with_reducible refine aR fun K' hK=> ?_ | with_reducible refine aS fun K' hK=> ?_);simp[r3];(first | refine hK _ _ _ ?_ | done);clear K' hK;(repeat with_reducible refine aA ?_);(first | with_reducible refine aR fun K' hK=> ?_ | with_reducible refine aS fun K' hK=> ?_);simp[r4];(first | refine hK _ _ _ ?_ | done);clear K' hK;refine aw_gen (fun u X nz=>u 1=.ptr 2 0∧u 2=.row 1 2∧u 4=.row 4 3∧u 5=.row 5 3∧u 6=.row 6 4∧nz=7∧X 0=some (.row 35 (flat Dep.cells prRoot.deps))∧X 1=some (.row 27 (flat Man.cells lsX))∧X 2=some (.var 27 (prB 0))∧X 4=some (.row 58 (flat Pl.cells lsW))∧X 5=some (.row 58 (flat Pl.cells lsD))∧X 6=some (.row 58 (flat Pl.cells prT))) ?_ ?_
 ·exact⟨by simp,by simp,by simp,by simp,by simp,by simp,by simp,by simp,by simp;rfl,by simp;rfl,by simp;rfl,by simp;rfl⟩
 rintro s G nx ⟨s1,s2,s4,s5,s6,rfl,g0,g1,g2,g4,g5,g6⟩;have tr:∀(X:Hp) (i:Nat) (l:List Pl),X i=some (.row 58 (flat Pl.cells l))→treeOf Tryz.prog X (.row i l.length)=some (rowT Pl.cells l):=fun X i l h=>treeOf_of h c58 rfl;have T:∀(X:Hp),(∀k,k<7→X k=G k)→seesA Tryz.prog X [.agg (prB 0),.row 1 2]=some [.agg prA,rowT Man.cells lsX]:=fun X hX=>by
  have t0:treeOf Tryz.prog X (.row 0 1)=some (rowT Dep.cells prRoot.deps):=treeOf_of ((hX 0 (by omega)).trans g0) c35 rfl;have t1:treeOf Tryz.prog X (.row 1 2)=some (rowT Man.cells lsX):=treeOf_of ((hX 1 (by omega)).trans g1) c27 rfl;simp only[seesA,seeA,prB,looksA,lookA,t0,t1];rfl
 have T3:∀(X:Hp) (x y:AV),(∀k,k<7→X k=G k)→seesA Tryz.prog X [x]=some [y]→seesA Tryz.prog X [.agg (prB 0),.row 1 2,x]=some [.agg prA,rowT Man.cells lsX,y]:=fun X x y hX hx=>by
  have h1:=T X hX;simp only[seesA]at h1 hx⊢
  revert h1 hx
  cases seeA Tryz.prog X (.agg (prB 0))<;>cases seeA Tryz.prog X (.row 1 2)<;>cases seeA Tryz.prog X x<;>simp;intro a b c;exact⟨b,c,a⟩
 have T4:∀(X:Hp) (x y:AV) (n:Int),(∀k,k<7→X k=G k)→seesA Tryz.prog X [x]=some [y]→seesA Tryz.prog X [.agg (prB 0),.row 1 2,x,iV n]=some [.agg prA,rowT Man.cells lsX,y,iV n]:=fun X x y n hX hx=>by
  have h1:=T X hX;simp only[seesA]at h1 hx⊢
  revert h1 hx
  cases seeA Tryz.prog X (.agg (prB 0))<;>cases seeA Tryz.prog X (.row 1 2)<;>cases seeA Tryz.prog X x<;>simp;intro a b c;exact⟨b,c,a⟩
 have S1:∀(X:Hp) (i:Nat) (l:List Pl),X i=some (.row 58 (flat Pl.cells l))→seesA Tryz.prog X [.row i l.length]=some [rowT Pl.cells l]:=fun X i l h=>(by simp only[seesA,seeA,lookA,tr X i l h]);have S2:∀(X:Hp) (i:Nat) (l:List Pl) (n:Int),X i=some (.row 58 (flat Pl.cells l))→seesA Tryz.prog X [.row i l.length,iV n]=some [rowT Pl.cells l,iV n]:=fun X i l n h=>(by simp only[seesA,seeA,lookA,tr X i l h]);have SS:∀(X:Hp) (i j:Nat) (l m:List Pl),X i=some (.row 58 (flat Pl.cells l))→X j=some (.row 58 (flat Pl.cells m))→seesA Tryz.prog X [.row i l.length,.row j m.length]=some [rowT Pl.cells l,rowT Pl.cells m]:=fun X i j l m h k=>(by simp only[seesA,seeA,lookA,tr X i l h,tr X j m k]);(repeat with_reducible refine aA ?_);(first | with_reducible refine aR fun K' hK=> ?_ | with_reducible refine aS fun K' hK=> ?_);simp[s1,s2,s5,g2];refine acall_keep hD ⟨rfl,rfl⟩ (T3 G _ _ (fun _ _=>rfl) (S1 G 5 lsD g5)) ?_;simp[addJ_one];(first | refine hK _ _ _ ?_ | done);clear K' hK;(repeat with_reducible refine aA ?_);(first | with_reducible refine aR fun K' hK=> ?_ | with_reducible refine aS fun K' hK=> ?_);simp[s1,s2,s6,g2];refine acall_keep hT ⟨rfl,rfl⟩ (T3 _ _ _ (fun k hk=>by rw[Hp.upd_ne _ _ (by omega)]) (S1 _ 6 prT (by simp[g6]))) ?_;simp[addJ_one];(first | refine hK _ _ _ ?_ | done);clear K' hK;(repeat with_reducible refine aA ?_);(first | with_reducible refine aR fun K' hK=> ?_ | with_reducible refine aS fun K' hK=> ?_);simp[s5];refine acall_keep hL1 ⟨rfl,rfl⟩ (S2 _ 5 lsD 2 (by simp[g5])) ?_;simp[addJ_one];(first | refine hK _ _ _ ?_ | done);clear K' hK;(repeat with_reducible refine aA ?_);(first | with_reducible refine aR fun K' hK=> ?_ | with_reducible refine aS fun K' hK=> ?_);simp[s6];refine acall_keep hL2 ⟨rfl,rfl⟩ (S2 _ 6 prT 3 (by simp[g6])) ?_;simp[addJ_one];(first | refine hK _ _ _ ?_ | done);clear K' hK;(repeat with_reducible refine aA ?_);(first | with_reducible refine aR fun K' hK=> ?_ | with_reducible refine aS fun K' hK=> ?_);simp[s6];refine acall_keep hL3 ⟨rfl,rfl⟩ (S2 _ 6 prT 1 (by simp[g6])) ?_;simp[addJ_one];(first | refine hK _ _ _ ?_ | done);clear K' hK;refine aw_gen (fun u X nz=>u 1=.ptr 2 0∧u 2=.row 1 2∧u 4=.row 4 3∧u 5=.row 5 3∧u 6=.row 6 4∧u 7=.row 7 3∧u 8=iV 0∧u 9=.row 8 3∧u 10=iV 0∧u 11=.row 9 3∧u 12=iV 0∧u 14=iV 152∧u 16=iV 151∧nz=12∧(∀k,k<7→X k=G k)∧X 7=some (.row 58 (flat Pl.cells lsW))∧X 8=some (.row 58 (flat Pl.cells lsW))∧X 9=some (.row 58 (flat Pl.cells lsW))) ?_ ?_
 ·exact⟨by simp[s1],by simp[s2],by simp[s4],by simp[s5],by simp[s6],by simp;rfl,by simp,by simp;rfl,by simp,by simp;rfl,by simp,by simp,by simp,by simp,fun k hk=>by repeat rw[Hp.upd_ne _ _ (by omega)],by simp,by simp,by simp⟩
 clear s1 s2 s4 s5 s6 s;rintro s X nx ⟨s1,s2,s4,s5,s6,s7,s8,s9,s10,s11,s12,s14,s16,rfl,hX,x7,x8,x9⟩;have x2:X 2=some (.var 27 (prB 0)):=(hX 2 (by omega)).trans g2;(repeat with_reducible refine aA ?_);(first | with_reducible refine aQ fun K' hK=> ?_ | with_reducible refine aT fun K' hK=> ?_);simp[s1,s2,x2];refine acall_new new20_ok (by first | rfl | (simp;done) | (simp;rfl) | (simp;exact⟨rfl,rfl⟩)) ?_;simp[addJ_one,s1,s2,x2];refine acall_keep h0 ⟨rfl,rfl⟩ (T3 _ _ _ (fun k hk=>by rw[Hp.upd_ne _ _ (by omega)];exact hX k hk) (S1 _ 12 [rootP] (by simp))) ?_;simp[addJ_one];(first | refine hK _ _ _ ?_ | done);clear K' hK;refine aw_gen (fun u Y nz=>u 1=.ptr 2 0∧u 2=.row 1 2∧u 4=.row 4 3∧u 5=.row 5 3∧u 6=.row 6 4∧u 7=.row 7 3∧u 8=iV 0∧u 9=.row 8 3∧u 10=iV 0∧u 11=.row 9 3∧u 12=iV 0∧u 14=iV 152∧u 16=iV 151∧u 18=iV 1∧(∀k,k<7→Y k=G k)∧Y 7=some (.row 58 (flat Pl.cells lsW))∧Y 8=some (.row 58 (flat Pl.cells lsW))∧Y 9=some (.row 58 (flat Pl.cells lsW))) ?_ ?_
 ·exact⟨by simp[s1],by simp[s2],by simp[s4],by simp[s5],by simp[s6],by simp[s7],by simp[s8],by simp[s9],by simp[s10],by simp[s11],by simp[s12],by simp[s14],by simp[s16],by simp,fun k hk=>by rw[Hp.upd_ne _ _ (by omega),Hp.upd_ne _ _ (by omega)];exact hX k hk,by simp[x7],by simp[x8],by simp[x9]⟩
 clear s1 s2 s4 s5 s6 s7 s8 s9 s10 s11 s12 s14 s16 hX x7 x8 x9 x2;rintro s X nx ⟨s1,s2,s4,s5,s6,s7,s8,s9,s10,s11,s12,s14,s16,s18,hX,x7,x8,x9⟩;have x2:X 2=some (.var 27 (prB 0)):=(hX 2 (by omega)).trans g2;have x4:X 4=some (.row 58 (flat Pl.cells lsW)):=(hX 4 (by omega)).trans g4;have x5:X 5=some (.row 58 (flat Pl.cells lsD)):=(hX 5 (by omega)).trans g5;have x6:X 6=some (.row 58 (flat Pl.cells prT)):=(hX 6 (by omega)).trans g6;(repeat with_reducible refine aA ?_);(first | with_reducible refine aR fun K' hK=> ?_ | with_reducible refine aS fun K' hK=> ?_);refine aops_part 7 fun K2 hK2=> ?_;simp[s4,s7,s8];refine acall_flat hS rfl (SS X 7 4 lsW lsW x7 x4) ?_;simp;refine hK2 _ _ _ ?_;clear K2 hK2;refine aops_part 9 fun K2 hK2=> ?_;simp[s4,s9,s10];refine acall_flat hS rfl (SS X 8 4 lsW lsW x8 x4) ?_;simp;refine hK2 _ _ _ ?_;clear K2 hK2;refine aops_part 9 fun K2 hK2=> ?_;simp[s4,s11,s12];refine acall_flat hS rfl (SS X 9 4 lsW lsW x9 x4) ?_;simp;refine hK2 _ _ _ ?_;clear K2 hK2;refine aops_part 13 fun K2 hK2=> ?_;simp[s14,s16,s18,s1,x2];refine hK2 _ _ _ ?_;clear K2 hK2;refine aops_part 6 fun K2 hK2=> ?_;simp[s1,s2,s6,x2];refine acall_flat hC1 rfl (T4 X _ _ 2 hX (S1 X 6 prT x6)) ?_;simp;refine hK2 _ _ _ ?_;clear K2 hK2;refine aops_part 7 fun K2 hK2=> ?_;simp[s1,s2,s5,x2];refine acall_flat hC2 rfl (T4 X _ _ 2 hX (S1 X 5 lsD x5)) ?_;simp;refine hK2 _ _ _ ?_;clear K2 hK2;simp[s1,s2,s5,x2];refine acall_flat hC3 rfl (T4 X _ _ 2 hX (S1 X 5 lsD x5)) ?_;simp;(first | refine hK _ _ _ ?_ | done);clear K' hK;(repeat with_reducible refine aA ?_);(first | with_reducible refine aw_ret ?_ | with_reducible refine aw_retL ?_ | with_reducible refine aw_skipL ?_);simp[blockK,loopK,Post,resA,res1,expT,expA,exp1,expM,expL,okT,okA,ok1,rowOf,Tryz.f65]
set_option maxRecDepth 100000
set_option maxHeartbeats 4000000
def largeD (root:Man) (L:List Man) (t:List Pl):Bool:=bigW root L t || (decide (14<t.length)&&decide (t.length≤200))
theorem large58_ok (root:Man) (L:List Man) (t:List Pl) (hl:L.length≤9223372036854775807) (htl:t.length≤9223372036854775807):CallsOK Tryz.prog 58 [.agg root.cells,rowT Man.cells L,rowT Pl.cells t] (bV (largeD root L t)) []:=by
 refine callsOK mixed Tryz.call58 Tryz.func58 rfl (by rw[Tryz.ntmps58];simp) ?_ rfl;rw[Tryz.ntmps58];(repeat with_reducible refine aA ?_);(first | with_reducible refine aR fun K' hK=> ?_ | with_reducible refine aS fun K' hK=> ?_);simp;(first | refine hK _ _ _ ?_ | done);clear K' hK;(repeat with_reducible refine aA ?_);(first | with_reducible refine aR fun K' hK=> ?_ | with_reducible refine aS fun K' hK=> ?_);simp;refine acall_flat (big21_ok root L t hl htl) rfl (by first | rfl | (simp;done) | (simp;rfl) | (simp;exact⟨rfl,rfl⟩)) ?_;by_cases hb:bigW root L t=true
 ·simp[hb];(first | refine hK _ _ _ ?_ | done);clear K' hK;(repeat with_reducible refine aA ?_);(first | with_reducible refine aw_ret ?_ | with_reducible refine aw_retL ?_ | with_reducible refine aw_skipL ?_);simp[blockK,loopK,Post,resA,res1,expT,expA,exp1,expM,expL,okT,okA,ok1,rowOf,Tryz.f58,largeD,hb]
 have hb':bigW root L t=false:=(by simpa using hb);by_cases h14:(14:Int)<t.length
 ·have h14':14<t.length:=(by omega);simp[hb',h14];(first | refine hK _ _ _ ?_ | done);clear K' hK;(repeat with_reducible refine aA ?_);(first | with_reducible refine aw_ret ?_ | with_reducible refine aw_retL ?_ | with_reducible refine aw_skipL ?_);simp[blockK,loopK,Post,resA,res1,expT,expA,exp1,expM,expL,okT,okA,ok1,rowOf,Tryz.f58,largeD,hb',h14'];omega
 ·have h14':¬14<t.length:=(by omega);simp[hb',h14];(first | refine hK _ _ _ ?_ | done);clear K' hK;(repeat with_reducible refine aA ?_);(first | with_reducible refine aw_ret ?_ | with_reducible refine aw_retL ?_ | with_reducible refine aw_skipL ?_);simp[blockK,loopK,Post,resA,res1,expT,expA,exp1,expM,expL,okT,okA,ok1,rowOf,Tryz.f58,largeD,hb',h14']
theorem largeD_no {root:Man} {L:List Man} {t:List Pl} (h:largeD root L t=false):bigW root L t=false:=by
 unfold largeD at h;rw[Bool.or_eq_false_iff]at h;exact h.1
theorem ded_len (root:Man) (L:List Man):∀(k:Nat) (t:List Pl),(dedF root L k t).length≤t.length
 | 0,t=>Nat.le_refl _
 | k+1,t=>by
  rw[dedF];split
  ·exact Nat.le_refl _
  ·rename_i u h;refine Nat.le_trans (ded_len root L k u) ?_;unfold dedS at h;split at h
   ·injection h with h;subst h;exact cutR_len
   ·split at h
    ·injection h with h;subst h;exact liftR_len
    ·cases h
theorem dedF_mem (root:Man) (L:List Man):∀(k:Nat) (t:List Pl) {p:Pl},p∈dedF root L k t→∃q∈t,p.name=q.name∧p.ver=q.ver
 | 0,t,p,h=>⟨p,h,rfl,rfl⟩
 | k+1,t,p,h=>by
  rw[dedF]at h;split at h
  ·exact⟨p,h,rfl,rfl⟩
  ·rename_i u hu;obtain⟨q,hq,e1,e2⟩:=dedF_mem root L k u h;unfold dedS at hu;split at hu
   ·injection hu with hu;subst hu;obtain⟨r,hr,f1,f2⟩:=cut_mem hq;exact⟨r,hr,e1.trans f1,e2.trans f2⟩
   ·split at hu
    ·injection hu with hu;subst hu;obtain⟨r,hr,f1,f2⟩:=liftR_mem hq;exact⟨r,hr,e1.trans f1,e2.trans f2⟩
    ·cases hu
theorem ded_sz {root:Man} {L:List Man} {t:List Pl} (h:ValSz root L t):ValSz root L (dedR root L t):=by
 obtain⟨a,b,c,d,e,f⟩:=h;unfold dedR;split
 ·refine⟨a,b,c,d,⟨Nat.le_trans (ded_len root L _ t) e.1,fun p hp=> ?_⟩,fun p hp=> ?_⟩
  ·obtain⟨q,hq,e1,e2⟩:=dedF_mem root L _ t hp;rw[e1,e2];exact e.2 q hq
  ·obtain⟨q,hq,e1,e2⟩:=dedF_mem root L _ t hp;rw[e2];exact f q hq
 ·exact⟨a,b,c,d,⟨by simp,by simp⟩,by simp⟩
theorem least16_ok (hLs:CallsOK Tryz.prog 65 [] (bV true) []) (root:Man) (L:List Man) (t:List Pl) (hl:L.length≤9223372036854775807) (htl:t.length≤9223372036854775807):CallsOK Tryz.prog 16 [.agg root.cells,rowT Man.cells L,rowT Pl.cells t] (bV true) []:=by
 refine callsOK mixed Tryz.call16 Tryz.func16 rfl (by rw[Tryz.ntmps16];simp) ?_ rfl;rw[Tryz.ntmps16];(repeat with_reducible refine aA ?_);(first | with_reducible refine aR fun K' hK=> ?_ | with_reducible refine aS fun K' hK=> ?_);simp;(first | refine hK _ _ _ ?_ | done);clear K' hK;(repeat with_reducible refine aA ?_);(first | with_reducible refine aR fun K' hK=> ?_ | with_reducible refine aS fun K' hK=> ?_);simp;refine acall_flat (large58_ok root L t hl htl) rfl (by first | rfl | (simp;done) | (simp;rfl) | (simp;exact⟨rfl,rfl⟩)) ?_;by_cases hb:largeD root L t=true
 ·simp[hb];(first | refine hK _ _ _ ?_ | done);clear K' hK;repeat with_reducible refine aA ?_
  (first | with_reducible refine aC fun A B hA hB=> ?_ | with_reducible refine aD fun A B hA hB=> ?_)
  simp;refine⟨fun hc=>hA ?_,fun hc=>hB ?_⟩<;>clear hA hB A B<;>(try (simp at hc;done))<;>(try (exfalso;simp at hc;omega))<;>clear hc<;>(try with_reducible refine aK ?_);(repeat with_reducible refine aA ?_);(first | with_reducible refine aR fun K' hK=> ?_ | with_reducible refine aS fun K' hK=> ?_);simp;(first | refine hK _ _ _ ?_ | done);clear K' hK;(repeat with_reducible refine aA ?_);(first | with_reducible refine aw_ret ?_ | with_reducible refine aw_retL ?_ | with_reducible refine aw_skipL ?_);simp[blockK,loopK,Post,resA,res1,expT,expA,exp1,expM,expL,okT,okA,ok1,rowOf,Tryz.f16]
 have hb':largeD root L t=false:=(by simpa using hb);obtain⟨b1,b2,b3⟩:=bigW_sz (largeD_no hb');have hsz:ValSz root L t:=valSz_of b1 b2 b3;have hsz2:=ded_sz hsz;have c58:Tryz.prog.cellsOf 58=6:=(by kernel_rfl);have hD:=dedupe66_ok root L t hsz;have hV:=valid38_ok root L t hsz;simp[hb'];(first | refine hK _ _ _ ?_ | done);clear K' hK;repeat with_reducible refine aA ?_
 (first | with_reducible refine aC fun A B hA hB=> ?_ | with_reducible refine aD fun A B hA hB=> ?_)
 simp;refine⟨fun hc=>hA ?_,fun hc=>hB ?_⟩<;>clear hA hB A B<;>(try (simp at hc;done))<;>(try (exfalso;simp at hc;omega))<;>clear hc<;>(try with_reducible refine aK ?_);(repeat with_reducible refine aA ?_);(first | with_reducible refine aR fun K' hK=> ?_ | with_reducible refine aS fun K' hK=> ?_);simp;refine acall_new hD (by first | rfl | (simp;done) | (simp;rfl) | (simp;exact⟨rfl,rfl⟩)) ?_;simp[addJ_one];(first | refine hK _ _ _ ?_ | done);clear K' hK;by_cases c0:dedCode root L t=0
 ·obtain⟨d1,d2,d3,d4⟩:=ded_least c0;have hD2:=dedupe66_ok root L _ hsz2;rw[d3,d4]at hD2;have hV2:=valid38_ok root L _ hsz2;rw[d2]at hV2;have hC:∀n:Nat,n<(dedR root L t).length→CallsOK Tryz.prog 61 [.agg root.cells,rowT Man.cells L,rowT Pl.cells (dedR root L t),iV n] (bV false) []:=fun n hn=>by
   have:=cuts61_ok root L _ (n:Int) hsz2;rw[show cutsZ root L (dedR root L t) (n:Int)=false from(d1 n hn).1,Bool.and_false]at this;exact this
  have hF:∀n:Nat,n<(dedR root L t).length→CallsOK Tryz.prog 63 [.agg root.cells,rowT Man.cells L,rowT Pl.cells (dedR root L t),iV n] (bV false) []:=fun n hn=>by
   have:=lifts63_ok root L _ (n:Int) hsz2;rw[show liftsZ root L (dedR root L t) (n:Int)=false from(d1 n hn).2,Bool.and_false]at this;exact this
  have hul:=hsz2.2.2.2.2.1.1;refine aw_gen (fun x X nz=>x 1=rowT Man.cells L∧x 3=.ptr 0 0∧x 7=.row 1 (dedR root L t).length∧x 8=iV 0∧nz=2∧X 0=some (.var 27 root.cells)∧X 1=some (.row 58 (flat Pl.cells (dedR root L t)))) ?_ ?_
  ·exact⟨by simp,by simp,by simp,by simp[c0],by simp,by simp,by simp⟩
  clear hD d1 d2 d3 d4 hsz2 hV;generalize dedR root L t=u at*;rintro s G nx ⟨s1,s3,s7,s8,rfl,g0,g1⟩;have sT:∀X:Hp,X 1=G 1→treeOf Tryz.prog X (.row 1 u.length)=some (rowT Pl.cells u):=fun X h=>treeOf_of (h.trans g1) c58 rfl;(repeat with_reducible refine aA ?_);(first | with_reducible refine aR fun K' hK=> ?_ | with_reducible refine aS fun K' hK=> ?_);simp[s8];(first | refine hK _ _ _ ?_ | done);clear K' hK;repeat with_reducible refine aA ?_
  (first | with_reducible refine aC fun A B hA hB=> ?_ | with_reducible refine aD fun A B hA hB=> ?_)
  simp;refine⟨fun hc=>hA ?_,fun hc=>hB ?_⟩<;>clear hA hB A B<;>(try (simp at hc;done))<;>(try (exfalso;simp at hc;omega))<;>clear hc<;>(try with_reducible refine aK ?_);(repeat with_reducible refine aA ?_);(first | with_reducible refine aR fun K' hK=> ?_ | with_reducible refine aS fun K' hK=> ?_);simp;(first | refine hK _ _ _ ?_ | done);clear K' hK;(repeat with_reducible refine aA ?_);(first | with_reducible refine aw_block ?_ | with_reducible refine aw_toS (aw_block ?_));refine aw_loop (fun s X ny=>s 1=rowT Man.cells L∧s 3=.ptr 0 0∧s 7=.row 1 u.length∧X=G∧ny=2∧∃i:Nat,s 9=iV i∧i≤u.length) (fun s _ _=>match s 9 with | .v (.int _ n)=>u.length-n.toNat | _=>0) ?_ ?_
  ·exact⟨by simp[s1],by simp[s3],by simp[s7],rfl,rfl,0,by simp,by omega⟩
  clear s1 s3 s7 s8 s;rintro s X ny-⟨s1,s3,s7,rfl,rfl,i,s9,hi⟩;have hw:IntKind.i64.wrap (↑i+1)=((i+1:Nat):Int):=wrapS (by omega);(repeat with_reducible refine aA ?_);(first | with_reducible refine aR fun K' hK=> ?_ | with_reducible refine aS fun K' hK=> ?_);simp[s7,s9,g1];(first | refine hK _ _ _ ?_ | done);clear K' hK;(repeat with_reducible refine aA ?_);(first | with_reducible refine aC fun A B hA hB=> ?_ | with_reducible refine aD fun A B hA hB=> ?_);simp;refine⟨fun hi2=>hA ?_,fun hi2=>hB ?_⟩<;>clear hA hB A B<;>(try simp at hi2)<;>(try with_reducible refine aK ?_)
  ·have q:seesA Tryz.prog X [.agg root.cells,rowT Man.cells L,.row 1 u.length,iV i]=some [.agg root.cells,rowT Man.cells L,rowT Pl.cells u,iV i]:=by
    simp only[seesA,seeA,lookA,sT X rfl];rfl
   (repeat with_reducible refine aA ?_);(first | with_reducible refine aw_block ?_ | with_reducible refine aw_toS (aw_block ?_));(repeat with_reducible refine aA ?_);(first | with_reducible refine aR fun K' hK=> ?_ | with_reducible refine aS fun K' hK=> ?_);simp[s1,s3,s7,s9,g0];refine acall_flat (hC i hi2) rfl q ?_;simp[s1,s3,s7,s9,g0];refine acall_flat (hF i hi2) rfl q ?_;simp;(first | refine hK _ _ _ ?_ | done);clear K' hK;repeat with_reducible refine aA ?_
   (first | with_reducible refine aC fun A B hA hB=> ?_ | with_reducible refine aD fun A B hA hB=> ?_)
   simp;refine⟨fun hc=>hA ?_,fun hc=>hB ?_⟩<;>clear hA hB A B<;>(try (simp at hc;done))<;>(try (exfalso;simp at hc;omega))<;>clear hc<;>(try with_reducible refine aK ?_);(first | with_reducible refine aw_skipL ?_ | skip);refine blockK_normal ?_;(repeat with_reducible refine aA ?_);(first | with_reducible refine aR fun K' hK=> ?_ | with_reducible refine aS fun K' hK=> ?_);simp[s9,hw];(first | refine hK _ _ _ ?_ | done);clear K' hK;refine aw_skipL (loopK_normal ?_ ?_)
   ·exact⟨by simp[s1],by simp[s3],by simp[s7],rfl,rfl,i+1,by simp[hw],by omega⟩
   ·simp[s9,hw];omega
  ·(repeat with_reducible refine aA ?_);(first | with_reducible refine aw_exit ?_ | with_reducible refine aw_exitL ?_);refine loopK_exit (blockK_exit ?_);have q:seesA Tryz.prog X [.agg root.cells,rowT Man.cells L,.row 1 u.length]=some [.agg root.cells,rowT Man.cells L,rowT Pl.cells u]:=by
    simp only[seesA,seeA,lookA,sT X rfl];rfl
   (repeat with_reducible refine aA ?_);(first | with_reducible refine aR fun K' hK=> ?_ | with_reducible refine aS fun K' hK=> ?_);simp[s1,s3,s7,g0];refine acall_keep hD2 ⟨rfl,pl_J _ _⟩ q ?_;simp[addJ_one];(first | refine hK _ _ _ ?_ | done);clear K' hK;have q2:seesA Tryz.prog (X.upd 2 (.row 58 (flat Pl.cells u))) [.agg root.cells,rowT Man.cells L,.row 1 u.length]=some [.agg root.cells,rowT Man.cells L,rowT Pl.cells u]:=by
    simp only[seesA,seeA,lookA,sT (X.upd 2 (.row 58 (flat Pl.cells u))) (by simp)];rfl
   have q3:seesA Tryz.prog (X.upd 2 (.row 58 (flat Pl.cells u))) [.row 1 u.length,.row 2 u.length]=some [rowT Pl.cells u,rowT Pl.cells u]:=by
    have:=treeOf_of (P:=Tryz.prog) (G:=X.upd 2 (.row 58 (flat Pl.cells u))) (id:=2) (Hp.upd_self _ _ _) c58 rfl;simp only[seesA,seeA,lookA,sT (X.upd 2 (.row 58 (flat Pl.cells u))) (by simp),this]
   (repeat with_reducible refine aA ?_);(first | with_reducible refine aR fun K' hK=> ?_ | with_reducible refine aS fun K' hK=> ?_);simp[s1,s3,s7,g0];refine acall_flat hLs rfl (by first | rfl | (simp;done) | (simp;rfl) | (simp;exact⟨rfl,rfl⟩)) ?_;simp[s1,s3,s7,g0];refine acall_flat hV2 rfl q2 ?_;simp[s1,s3,s7,g0];refine acall_flat (pr_same u hul) rfl q3 ?_;simp;(first | refine hK _ _ _ ?_ | done);clear K' hK;(repeat with_reducible refine aA ?_);(first | with_reducible refine aw_ret ?_ | with_reducible refine aw_retL ?_ | with_reducible refine aw_skipL ?_);simp[blockK,loopK,Post,resA,res1,expT,expA,exp1,expM,expL,okT,okA,ok1,rowOf,Tryz.f16]
 ·have hv:validN root L t=false:=by
   cases h:validN root L t with
   | false=>rfl
   | true=>exact absurd (dedCode_zero.2 h) c0
  rw[hv]at hV;rw[dedR_off c0];(repeat with_reducible refine aA ?_);(first | with_reducible refine aR fun K' hK=> ?_ | with_reducible refine aS fun K' hK=> ?_);simp[c0];(first | refine hK _ _ _ ?_ | done);clear K' hK;repeat with_reducible refine aA ?_
  (first | with_reducible refine aC fun A B hA hB=> ?_ | with_reducible refine aD fun A B hA hB=> ?_)
  simp;refine⟨fun hc=>hA ?_,fun hc=>hB ?_⟩<;>clear hA hB A B<;>(try (simp at hc;done))<;>(try (exfalso;simp at hc;omega))<;>clear hc<;>(try with_reducible refine aK ?_);(repeat with_reducible refine aA ?_);(first | with_reducible refine aR fun K' hK=> ?_ | with_reducible refine aS fun K' hK=> ?_);simp;refine acall_flat hLs rfl (by first | rfl | (simp;done) | (simp;rfl) | (simp;exact⟨rfl,rfl⟩)) ?_;simp;refine acall_flat hV rfl (by first | rfl | (simp;done) | (simp;rfl) | (simp;exact⟨rfl,rfl⟩)) ?_;simp;(first | refine hK _ _ _ ?_ | done);clear K' hK;(repeat with_reducible refine aA ?_);(first | with_reducible refine aw_ret ?_ | with_reducible refine aw_retL ?_ | with_reducible refine aw_skipL ?_);simp[blockK,loopK,Post,resA,res1,expT,expA,exp1,expM,expL,okT,okA,ok1,rowOf,Tryz.f16]
theorem cuts17_ok (hLs:CallsOK Tryz.prog 65 [] (bV true) []) (root:Man) (L:List Man) (t:List Pl) (n:Int) (hl:L.length≤9223372036854775807) (htl:t.length≤9223372036854775807):CallsOK Tryz.prog 17 [.agg root.cells,rowT Man.cells L,rowT Pl.cells t,iV n] (bV true) []:=by
 refine callsOK mixed Tryz.call17 Tryz.func17 rfl (by rw[Tryz.ntmps17];simp) ?_ rfl;rw[Tryz.ntmps17];(repeat with_reducible refine aA ?_);(first | with_reducible refine aR fun K' hK=> ?_ | with_reducible refine aS fun K' hK=> ?_);simp;(first | refine hK _ _ _ ?_ | done);clear K' hK;(repeat with_reducible refine aA ?_);(first | with_reducible refine aR fun K' hK=> ?_ | with_reducible refine aS fun K' hK=> ?_);simp;refine acall_flat (large58_ok root L t hl htl) rfl (by first | rfl | (simp;done) | (simp;rfl) | (simp;exact⟨rfl,rfl⟩)) ?_;by_cases hb:largeD root L t=true
 ·simp[hb];(first | refine hK _ _ _ ?_ | done);clear K' hK;repeat with_reducible refine aA ?_
  (first | with_reducible refine aC fun A B hA hB=> ?_ | with_reducible refine aD fun A B hA hB=> ?_)
  simp;refine⟨fun hc=>hA ?_,fun hc=>hB ?_⟩<;>clear hA hB A B<;>(try (simp at hc;done))<;>(try (exfalso;simp at hc;omega))<;>clear hc<;>(try with_reducible refine aK ?_);(repeat with_reducible refine aA ?_);(first | with_reducible refine aR fun K' hK=> ?_ | with_reducible refine aS fun K' hK=> ?_);simp;(first | refine hK _ _ _ ?_ | done);clear K' hK;(repeat with_reducible refine aA ?_);(first | with_reducible refine aw_ret ?_ | with_reducible refine aw_retL ?_ | with_reducible refine aw_skipL ?_);simp[blockK,loopK,Post,resA,res1,expT,expA,exp1,expM,expL,okT,okA,ok1,rowOf,Tryz.f17]
 have hb':largeD root L t=false:=(by simpa using hb);obtain⟨b1,b2,b3⟩:=bigW_sz (largeD_no hb');have hsz:ValSz root L t:=valSz_of b1 b2 b3;have c58:Tryz.prog.cellsOf 58=6:=(by kernel_rfl);have hV:=valid38_ok root L t hsz;have hC:=cuts61_ok root L t n hsz;have hF:=lifts63_ok root L t n hsz;have hT:=cut14_ok t hsz.2.2.2.2.1 n;have hU:=lift59_ok t hsz.2.2.2.2.1 n;have hVT:=valid38_ok root L _ (cut_sz (n:=n) hsz);have hVU:=valid38_ok root L _ (lift_sz (n:=n) hsz);have eC:cutsZ root L t n=(decide (cutCode t n=0)&&validN root L (cutR t n)):=rfl;have eF:liftsZ root L t n=(decide (liftCode t n=0)&&validN root L (liftR t n)):=rfl;rw[eC]at hC;rw[eF]at hF;clear eC eF;generalize cutR t n=u at*;generalize liftR t n=v at*;generalize cutCode t n=c at*;generalize liftCode t n=d at*;simp[hb'];(first | refine hK _ _ _ ?_ | done);clear K' hK;repeat with_reducible refine aA ?_
 (first | with_reducible refine aC fun A B hA hB=> ?_ | with_reducible refine aD fun A B hA hB=> ?_)
 simp;refine⟨fun hc=>hA ?_,fun hc=>hB ?_⟩<;>clear hA hB A B<;>(try (simp at hc;done))<;>(try (exfalso;simp at hc;omega))<;>clear hc<;>(try with_reducible refine aK ?_);(repeat with_reducible refine aA ?_);(first | with_reducible refine aR fun K' hK=> ?_ | with_reducible refine aS fun K' hK=> ?_);simp;refine acall_flat hC rfl (by first | rfl | (simp;done) | (simp;rfl) | (simp;exact⟨rfl,rfl⟩)) ?_;simp;(first | refine hK _ _ _ ?_ | done);clear K' hK;(repeat with_reducible refine aA ?_);(first | with_reducible refine aR fun K' hK=> ?_ | with_reducible refine aS fun K' hK=> ?_);simp;refine acall_new hT (by first | rfl | (simp;done) | (simp;rfl) | (simp;exact⟨rfl,rfl⟩)) ?_;simp[addJ_one];(first | refine hK _ _ _ ?_ | done);clear K' hK;(repeat with_reducible refine aA ?_);(first | with_reducible refine aR fun K' hK=> ?_ | with_reducible refine aS fun K' hK=> ?_);simp;refine acall_new hU (by first | rfl | (simp;done) | (simp;rfl) | (simp;exact⟨rfl,rfl⟩)) ?_;simp[addJ_one];(first | refine hK _ _ _ ?_ | done);clear K' hK;(repeat with_reducible refine aA ?_);(first | with_reducible refine aR fun K' hK=> ?_ | with_reducible refine aS fun K' hK=> ?_);simp;refine acall_flat hF rfl (by first | rfl | (simp;done) | (simp;rfl) | (simp;exact⟨rfl,rfl⟩)) ?_;simp;(first | refine hK _ _ _ ?_ | done);clear K' hK;(repeat with_reducible refine aA ?_);(first | with_reducible refine aR fun K' hK=> ?_ | with_reducible refine aS fun K' hK=> ?_);simp;refine acall_flat hV rfl (by first | rfl | (simp;done) | (simp;rfl) | (simp;exact⟨rfl,rfl⟩)) ?_;simp;(first | refine hK _ _ _ ?_ | done);clear K' hK;generalize validN root L t=a at*;refine aw_gen (fun x X nz=>x 1=rowT Man.cells L∧x 4=.ptr 0 0∧x 9=bV (a&&(decide (c=0)&&validN root L u))∧x 10=.row 1 u.length∧x 11=iV c∧x 12=.row 2 v.length∧x 13=iV d∧x 14=bV (a&&(decide (d=0)&&validN root L v))∧x 15=bV a∧nz=3∧X 0=some (.var 27 root.cells)∧X 1=some (.row 58 (flat Pl.cells u))∧X 2=some (.row 58 (flat Pl.cells v))) ?_ ?_
 ·exact⟨by simp,by simp,by simp,by simp,by simp,by simp,by simp,by simp,by simp,by simp,by simp,by simp,by simp⟩
 rintro s G nx ⟨s1,s4,s9,s10,s11,s12,s13,s14,s15,rfl,g0,g1,g2⟩;have q1:seesA Tryz.prog G [.agg root.cells,rowT Man.cells L,.row 1 u.length]=some [.agg root.cells,rowT Man.cells L,rowT Pl.cells u]:=by
  have:=treeOf_of (P:=Tryz.prog) g1 c58 rfl;simp only[seesA,seeA,lookA,this];rfl
 have q2:seesA Tryz.prog G [.agg root.cells,rowT Man.cells L,.row 2 v.length]=some [.agg root.cells,rowT Man.cells L,rowT Pl.cells v]:=by
  have:=treeOf_of (P:=Tryz.prog) g2 c58 rfl;simp only[seesA,seeA,lookA,this];rfl
 cases a with
 | false=>
  (repeat with_reducible refine aA ?_);(first | with_reducible refine aR fun K' hK=> ?_ | with_reducible refine aS fun K' hK=> ?_);simp[s1,s4,s9,s10,s11,s12,s13,s14,s15,g0];refine acall_flat hLs rfl (by first | rfl | (simp;done) | (simp;rfl) | (simp;exact⟨rfl,rfl⟩)) ?_;simp[s1,s4,s9,s10,s11,s12,s13,s14,s15,g0];(first | refine hK _ _ _ ?_ | done);clear K' hK;(repeat with_reducible refine aA ?_);(first | with_reducible refine aw_ret ?_ | with_reducible refine aw_retL ?_ | with_reducible refine aw_skipL ?_);simp[blockK,loopK,Post,resA,res1,expT,expA,exp1,expM,expL,okT,okA,ok1,rowOf,Tryz.f17]
 | true=>
  by_cases hc:c=0
  ·by_cases hd:d=0
   ·(repeat with_reducible refine aA ?_);(first | with_reducible refine aR fun K' hK=> ?_ | with_reducible refine aS fun K' hK=> ?_);simp[s1,s4,s9,s10,s11,s12,s13,s14,s15,g0,hc,hd];refine acall_flat hLs rfl (by first | rfl | (simp;done) | (simp;rfl) | (simp;exact⟨rfl,rfl⟩)) ?_;simp[s1,s4,s9,s10,s11,s12,s13,s14,s15,g0,hc,hd];refine acall_flat hVT rfl q1 ?_;simp[s1,s4,s9,s10,s11,s12,s13,s14,s15,g0,hc,hd];refine acall_flat hVU rfl q2 ?_;simp;(first | refine hK _ _ _ ?_ | done);clear K' hK;(repeat with_reducible refine aA ?_);(first | with_reducible refine aw_ret ?_ | with_reducible refine aw_retL ?_ | with_reducible refine aw_skipL ?_);simp[blockK,loopK,Post,resA,res1,expT,expA,exp1,expM,expL,okT,okA,ok1,rowOf,Tryz.f17]
   ·(repeat with_reducible refine aA ?_);(first | with_reducible refine aR fun K' hK=> ?_ | with_reducible refine aS fun K' hK=> ?_);simp[s1,s4,s9,s10,s11,s12,s13,s14,s15,g0,hc,hd];refine acall_flat hLs rfl (by first | rfl | (simp;done) | (simp;rfl) | (simp;exact⟨rfl,rfl⟩)) ?_;simp[s1,s4,s9,s10,s11,s12,s13,s14,s15,g0,hc,hd];refine acall_flat hVT rfl q1 ?_;simp[s1,s4,s9,s10,s11,s12,s13,s14,s15,g0,hc,hd];(first | refine hK _ _ _ ?_ | done);clear K' hK;(repeat with_reducible refine aA ?_);(first | with_reducible refine aw_ret ?_ | with_reducible refine aw_retL ?_ | with_reducible refine aw_skipL ?_);simp[blockK,loopK,Post,resA,res1,expT,expA,exp1,expM,expL,okT,okA,ok1,rowOf,Tryz.f17]
  ·by_cases hd:d=0
   ·(repeat with_reducible refine aA ?_);(first | with_reducible refine aR fun K' hK=> ?_ | with_reducible refine aS fun K' hK=> ?_);simp[s1,s4,s9,s10,s11,s12,s13,s14,s15,g0,hc,hd];refine acall_flat hLs rfl (by first | rfl | (simp;done) | (simp;rfl) | (simp;exact⟨rfl,rfl⟩)) ?_;simp[s1,s4,s9,s10,s11,s12,s13,s14,s15,g0,hc,hd];refine acall_flat hVU rfl q2 ?_;simp;(first | refine hK _ _ _ ?_ | done);clear K' hK;(repeat with_reducible refine aA ?_);(first | with_reducible refine aw_ret ?_ | with_reducible refine aw_retL ?_ | with_reducible refine aw_skipL ?_);simp[blockK,loopK,Post,resA,res1,expT,expA,exp1,expM,expL,okT,okA,ok1,rowOf,Tryz.f17]
   ·(repeat with_reducible refine aA ?_);(first | with_reducible refine aR fun K' hK=> ?_ | with_reducible refine aS fun K' hK=> ?_);simp[s1,s4,s9,s10,s11,s12,s13,s14,s15,g0,hc,hd];refine acall_flat hLs rfl (by first | rfl | (simp;done) | (simp;rfl) | (simp;exact⟨rfl,rfl⟩)) ?_;simp[s1,s4,s9,s10,s11,s12,s13,s14,s15,g0,hc,hd];(first | refine hK _ _ _ ?_ | done);clear K' hK;(repeat with_reducible refine aA ?_);(first | with_reducible refine aw_ret ?_ | with_reducible refine aw_retL ?_ | with_reducible refine aw_skipL ?_);simp[blockK,loopK,Post,resA,res1,expT,expA,exp1,expM,expL,okT,okA,ok1,rowOf,Tryz.f17]
set_option maxRecDepth 100000
set_option maxHeartbeats 4000000
theorem lifts19_ok (hLs:CallsOK Tryz.prog 65 [] (bV true) []) (t:List Pl) (n:Int) (htl:t.length≤9223372036854775807):CallsOK Tryz.prog 19 [rowT Pl.cells t,iV n] (bV true) []:=by
 refine callsOK mixed Tryz.call19 Tryz.func19 rfl (by rw[Tryz.ntmps19];simp) ?_ rfl;rw[Tryz.ntmps19];(repeat with_reducible refine aA ?_);(first | with_reducible refine aR fun K' hK=> ?_ | with_reducible refine aS fun K' hK=> ?_);simp;(first | refine hK _ _ _ ?_ | done);clear K' hK;(repeat with_reducible refine aA ?_);(first | with_reducible refine aR fun K' hK=> ?_ | with_reducible refine aS fun K' hK=> ?_);simp;refine acall_flat (big30_ok t htl) rfl (by first | rfl | (simp;done) | (simp;rfl) | (simp;exact⟨rfl,rfl⟩)) ?_;by_cases hb:bigT t=true
 ·simp[hb];(first | refine hK _ _ _ ?_ | done);clear K' hK;repeat with_reducible refine aA ?_
  (first | with_reducible refine aC fun A B hA hB=> ?_ | with_reducible refine aD fun A B hA hB=> ?_)
  simp;refine⟨fun hc=>hA ?_,fun hc=>hB ?_⟩<;>clear hA hB A B<;>(try (simp at hc;done))<;>(try (exfalso;simp at hc;omega))<;>clear hc<;>(try with_reducible refine aK ?_);(repeat with_reducible refine aA ?_);(first | with_reducible refine aR fun K' hK=> ?_ | with_reducible refine aS fun K' hK=> ?_);simp;(first | refine hK _ _ _ ?_ | done);clear K' hK;(repeat with_reducible refine aA ?_);(first | with_reducible refine aw_ret ?_ | with_reducible refine aw_retL ?_ | with_reducible refine aw_skipL ?_);simp[blockK,loopK,Post,resA,res1,expT,expA,exp1,expM,expL,okT,okA,ok1,rowOf,Tryz.f19]
 have hb':bigT t=false:=(by simpa using hb);have ht:=bigT_ok hb';have hl1:=(bigT_len hb').1;by_cases hk:(40:Int)<t.length
 ·simp[hb',hk];(first | refine hK _ _ _ ?_ | done);clear K' hK;repeat with_reducible refine aA ?_
  (first | with_reducible refine aC fun A B hA hB=> ?_ | with_reducible refine aD fun A B hA hB=> ?_)
  simp;refine⟨fun hc=>hA ?_,fun hc=>hB ?_⟩<;>clear hA hB A B<;>(try (simp at hc;done))<;>(try (exfalso;simp at hc;omega))<;>clear hc<;>(try with_reducible refine aK ?_);(repeat with_reducible refine aA ?_);(first | with_reducible refine aR fun K' hK=> ?_ | with_reducible refine aS fun K' hK=> ?_);simp;(first | refine hK _ _ _ ?_ | done);clear K' hK;(repeat with_reducible refine aA ?_);(first | with_reducible refine aw_ret ?_ | with_reducible refine aw_retL ?_ | with_reducible refine aw_skipL ?_);simp[blockK,loopK,Post,resA,res1,expT,expA,exp1,expM,expL,okT,okA,ok1,rowOf,Tryz.f19]
 have c58:Tryz.prog.cellsOf 58=6:=(by kernel_rfl);have c3:Tryz.prog.cellsOf 3=1:=(by kernel_rfl);simp[hb',hk];(first | refine hK _ _ _ ?_ | done);clear K' hK;repeat with_reducible refine aA ?_
 (first | with_reducible refine aC fun A B hA hB=> ?_ | with_reducible refine aD fun A B hA hB=> ?_)
 simp;refine⟨fun hc=>hA ?_,fun hc=>hB ?_⟩<;>clear hA hB A B<;>(try (simp at hc;done))<;>(try (exfalso;simp at hc;omega))<;>clear hc<;>(try with_reducible refine aK ?_);(repeat with_reducible refine aA ?_);(first | with_reducible refine aR fun K' hK=> ?_ | with_reducible refine aS fun K' hK=> ?_);simp;refine acall_new (lift59_ok t ht n) (by first | rfl | (simp;done) | (simp;rfl) | (simp;exact⟨rfl,rfl⟩)) ?_;simp[addJ_one];(first | refine hK _ _ _ ?_ | done);clear K' hK;by_cases c0:liftCode t n=0
 ·obtain⟨hn0,hL⟩:=lift_iff.1 c0;have hR:liftR t n=liftT t n.toNat:=(by unfold liftR;rw[if_pos c0]);obtain⟨k,rfl⟩:∃k:Nat,n=k:=⟨n.toNat,by omega⟩;rw[Int.toNat_natCast]at hL hR;rw[hR,c0];have gu:=lift_good hL;have g:=hL.good;have hu0:checkN (liftT t k)=0:=check_iff.2 gu;have htu:OKs (liftT t k):=by
   refine⟨by rw[lift_len];exact ht.1,fun p hp=> ?_⟩;obtain⟨j,hj,rfl⟩:=List.mem_iff_getElem.1 hp;have hj2:j<t.length:=(by rw[lift_len]at hj;exact hj);have e:=lift_name hL (j:=j);rw[nth_eq hj]at e;rw[e.1,e.2];exact ht.2 _ (nth_mem hj2)
  have hB1:=below28_ok t ht (k:Int);have hB2:=below28_ok _ htu (k:Int);rw[lift_below hL]at hB2;have hC:=check18_ok _ htu;rw[hu0]at hC;have hul:=lift_len (t:=t) (n:=k);have hp1:=fun i=>path21_ok t ht i;have hp2:=fun i=>path21_ok _ htu i;have hpp:=fun j (hj:j<t.length)=>lift_paths hL hj;have hnm:=fun j=>lift_name hL (j:=j);have hmem:=fun j (hj:j<t.length)=>below_mem (t:=t) g hL.lt (k:=j) hj;have hbl:(belowL t k).length≤t.length:=by
   unfold belowL;split
   ·unfold belowK;rw[List.length_map];refine Nat.le_trans (List.length_filter_le _ _) ?_;rw[List.length_range];omega
   ·simp
  clear c0 hn0 hL hR gu htu hu0;generalize liftT t k=u at*;generalize belowL t k=l at*;(repeat with_reducible refine aA ?_);(first | with_reducible refine aR fun K' hK=> ?_ | with_reducible refine aS fun K' hK=> ?_);simp;(first | refine hK _ _ _ ?_ | done);clear K' hK;repeat with_reducible refine aA ?_
  (first | with_reducible refine aC fun A B hA hB=> ?_ | with_reducible refine aD fun A B hA hB=> ?_)
  simp;refine⟨fun hc=>hA ?_,fun hc=>hB ?_⟩<;>clear hA hB A B<;>(try (simp at hc;done))<;>(try (exfalso;simp at hc;omega))<;>clear hc<;>(try with_reducible refine aK ?_);(repeat with_reducible refine aA ?_);(first | with_reducible refine aR fun K' hK=> ?_ | with_reducible refine aS fun K' hK=> ?_);simp;refine acall_new hB1 (by first | rfl | (simp;done) | (simp;rfl) | (simp;exact⟨rfl,rfl⟩)) ?_;simp[addJ_one];(first | refine hK _ _ _ ?_ | done);clear K' hK;refine aw_gen (fun x X nz=>x 0=rowT Pl.cells t∧x 1=iV k∧x 5=.row 0 u.length∧x 7=.row 1 l.length∧nz=2∧X 0=some (.row 58 (flat Pl.cells u))∧X 1=some (.row 3 (flat iC l))) ?_ ?_
  ·exact⟨by simp,by simp,by simp,by simp,by simp,by simp,by simp⟩
  rintro s G nx ⟨s0,s1,s5,s7,rfl,g0,g1⟩;have tu:∀X:Hp,X 0=G 0→treeOf Tryz.prog X (.row 0 u.length)=some (rowT Pl.cells u):=fun X h=>treeOf_of (h.trans g0) c58 rfl;have su:∀(X:Hp) (z:Int),X 0=G 0→seesA Tryz.prog X [.row 0 u.length,iV z]=some [rowT Pl.cells u,iV z]:=fun X z h=>(by simp only[seesA,seeA,lookA,tu X h]);(repeat with_reducible refine aA ?_);(first | with_reducible refine aR fun K' hK=> ?_ | with_reducible refine aS fun K' hK=> ?_);simp[s1,s5];refine acall_keep hB2 ⟨rfl,iC_J _ _⟩ (su G k rfl) ?_;simp[addJ_one];(first | refine hK _ _ _ ?_ | done);clear K' hK;have su2:seesA Tryz.prog (G.upd 2 (.row 3 (flat iC l))) [.row 0 u.length]=some [rowT Pl.cells u]:=(by simp only[seesA,seeA,lookA,tu (G.upd 2 (.row 3 (flat iC l))) (by simp)]);(repeat with_reducible refine aA ?_);(first | with_reducible refine aR fun K' hK=> ?_ | with_reducible refine aS fun K' hK=> ?_);simp[s0,s5,s7,g0,g1];refine acall_flat hC rfl su2 ?_;simp[s0,s5,s7,g0,g1,hul];(first | refine hK _ _ _ ?_ | done);clear K' hK;repeat with_reducible refine aA ?_
  (first | with_reducible refine aC fun A B hA hB=> ?_ | with_reducible refine aD fun A B hA hB=> ?_)
  simp;refine⟨fun hc=>hA ?_,fun hc=>hB ?_⟩<;>clear hA hB A B<;>(try (simp at hc;done))<;>(try (exfalso;simp at hc;omega))<;>clear hc<;>(try with_reducible refine aK ?_);(repeat with_reducible refine aA ?_);(first | with_reducible refine aR fun K' hK=> ?_ | with_reducible refine aS fun K' hK=> ?_);simp;(first | refine hK _ _ _ ?_ | done);clear K' hK;(repeat with_reducible refine aA ?_);(first | with_reducible refine aw_block ?_ | with_reducible refine aw_toS (aw_block ?_));refine aw_loop (fun s X ny=>s 0=rowT Pl.cells t∧s 5=.row 0 u.length∧s 7=.row 1 l.length∧X 0=G 0∧X 1=G 1∧∃i:Nat,s 9=iV i∧i≤t.length) (fun s _ _=>match s 9 with | .v (.int _ n)=>t.length-n.toNat | _=>0) ?_ ?_
  ·exact⟨by simp[s0],by simp[s5],by simp[s7],by simp,by simp,0,by simp,by omega⟩
  clear s0 s1 s5 s7 su2 s;rintro s X ny-⟨s0,s5,s7,x0,x1,i,s9,hi⟩;have hw:IntKind.i64.wrap (↑i+1)=((i+1:Nat):Int):=wrapS (by omega);(repeat with_reducible refine aA ?_);(first | with_reducible refine aR fun K' hK=> ?_ | with_reducible refine aS fun K' hK=> ?_);simp[s0,s9];(first | refine hK _ _ _ ?_ | done);clear K' hK;(repeat with_reducible refine aA ?_);(first | with_reducible refine aC fun A B hA hB=> ?_ | with_reducible refine aD fun A B hA hB=> ?_);simp;refine⟨fun hi2=>hA ?_,fun hi2=>hB ?_⟩<;>clear hA hB A B<;>(try simp at hi2)<;>(try with_reducible refine aK ?_)
  ·have hpi:=hpp i hi2;have hmi:=hmem i hi2;obtain⟨hnm1,hnm2⟩:=hnm i;have hiu:i<u.length:=(by omega);have hii:(i:Int)<t.length:=(by omega);have hiui:(i:Int)<u.length:=(by omega);(repeat with_reducible refine aA ?_);(first | with_reducible refine aw_block ?_ | with_reducible refine aw_toS (aw_block ?_));(repeat with_reducible refine aA ?_);(first | with_reducible refine aR fun K' hK=> ?_ | with_reducible refine aS fun K' hK=> ?_);simp;(first | refine hK _ _ _ ?_ | done);clear K' hK;(repeat with_reducible refine aA ?_);(first | with_reducible refine aR fun K' hK=> ?_ | with_reducible refine aS fun K' hK=> ?_);simp;(first | refine hK _ _ _ ?_ | done);clear K' hK;(repeat with_reducible refine aA ?_);first | refine aw_cut (fun s' X' ny'=>s' 0=rowT Pl.cells t∧s' 5=.row 0 u.length∧s' 7=.row 1 l.length∧X' 0=G 0∧X' 1=G 1∧s' 9=iV i∧s' 10=bV (underF t i k)) ?_ ?_ | refine aw_toS (aw_cut (fun s' X' ny'=>s' 0=rowT Pl.cells t∧s' 5=.row 0 u.length∧s' 7=.row 1 l.length∧X' 0=G 0∧X' 1=G 1∧s' 9=iV i∧s' 10=bV (underF t i k)) ?_ ?_)
   ·(repeat with_reducible refine aA ?_);(first | with_reducible refine aw_block ?_ | with_reducible refine aw_toS (aw_block ?_));refine aw_loop (fun s' X' nx'=>s' 0=rowT Pl.cells t∧s' 5=.row 0 u.length∧s' 7=.row 1 l.length∧X' 0=G 0∧X' 1=G 1∧s' 9=iV i∧∃j:Nat,s' 11=iV j∧j≤l.length∧s' 10=bV ((l.take j).any fun z=>decide (z=(i:Int)))) (fun s _ _=>match s 11 with | .v (.int _ n)=>l.length-n.toNat | _=>0) ?_ ?_
    ·exact⟨by simp[s0],by simp[s5],by simp[s7],x0,x1,by simp[s9],0,by simp,by omega,by simp⟩
    clear s0 s5 s7 x0 x1 s9;rintro s X nz-⟨s0,s5,s7,x0,x1,s9,j,s11,hj,s10⟩;have hw2:IntKind.i64.wrap (↑j+1)=((j+1:Nat):Int):=wrapS (by omega);have y1:X 1=some (.row 3 (flat iC l)):=x1.trans g1;(repeat with_reducible refine aA ?_);(first | with_reducible refine aR fun K' hK=> ?_ | with_reducible refine aS fun K' hK=> ?_);simp[s7,s11,y1];(first | refine hK _ _ _ ?_ | done);clear K' hK;(repeat with_reducible refine aA ?_);(first | with_reducible refine aC fun A B hA hB=> ?_ | with_reducible refine aD fun A B hA hB=> ?_);simp;refine⟨fun hj2=>hA ?_,fun hj2=>hB ?_⟩<;>clear hA hB A B<;>(try simp at hj2)<;>(try with_reducible refine aK ?_)
    ·have hstep:=any_take1 (p:=fun z:Int=>decide (z=(i:Int))) hj2;generalize hin:((l.take j).any fun z=>decide (z=(i:Int)))=y at*;(repeat with_reducible refine aA ?_);(first | with_reducible refine aw_block ?_ | with_reducible refine aw_toS (aw_block ?_));cases y with
     | true=>
      (repeat with_reducible refine aA ?_);(first | with_reducible refine aR fun K' hK=> ?_ | with_reducible refine aS fun K' hK=> ?_);simp[s10];(first | refine hK _ _ _ ?_ | done);clear K' hK;(first | with_reducible refine aw_skipL ?_ | skip);refine blockK_normal ?_;(repeat with_reducible refine aA ?_);(first | with_reducible refine aR fun K' hK=> ?_ | with_reducible refine aS fun K' hK=> ?_);simp[s11,hw2];(first | refine hK _ _ _ ?_ | done);clear K' hK;refine aw_skipL (loopK_normal ?_ ?_)
      ·exact⟨by simp[s0],by simp[s5],by simp[s7],x0,x1,by simp[s9],j+1,by simp[hw2],by omega,by rw[hstep];simp⟩
      ·simp[s11,hw2];omega
     | false=>
      (repeat with_reducible refine aA ?_);(first | with_reducible refine aR fun K' hK=> ?_ | with_reducible refine aS fun K' hK=> ?_);simp[s7,s9,s10,s11,y1,hj2];(first | refine hK _ _ _ ?_ | done);clear K' hK;(first | with_reducible refine aw_skipL ?_ | skip);refine blockK_normal ?_;(repeat with_reducible refine aA ?_);(first | with_reducible refine aR fun K' hK=> ?_ | with_reducible refine aS fun K' hK=> ?_);simp[s11,hw2];(first | refine hK _ _ _ ?_ | done);clear K' hK;refine aw_skipL (loopK_normal ?_ ?_)
      ·exact⟨by simp[s0],by simp[s5],by simp[s7],x0,x1,by simp[s9],j+1,by simp[hw2],by omega,by rw[hstep];simp⟩
      ·simp[s11,hw2];omega
    ·(repeat with_reducible refine aA ?_);(first | with_reducible refine aw_exit ?_ | with_reducible refine aw_exitL ?_);refine loopK_exit (blockK_exit ?_);with_reducible refine aw_end ?_
     have hje:j=l.length:=(by omega);subst hje;rw[List.take_length,hmi]at s10;exact⟨by simp[s0],by simp[s5],by simp[s7],x0,x1,by simp[s9],by simp[s10]⟩
   have o9:=s9;clear s0 s5 s7 x0 x1 s9;rintro s X nz ⟨s0,s5,s7,x0,x1,s9,s10⟩;have y0:X 0=some (.row 58 (flat Pl.cells u)):=x0.trans g0;(repeat with_reducible refine aA ?_);(first | with_reducible refine aR fun K' hK=> ?_ | with_reducible refine aS fun K' hK=> ?_);simp[s0,s9];refine acall_flat (hp1 i) rfl (by first | rfl | (simp;done) | (simp;rfl) | (simp;exact⟨rfl,rfl⟩)) ?_;simp;(first | refine hK _ _ _ ?_ | done);clear K' hK;(repeat with_reducible refine aA ?_);(first | with_reducible refine aR fun K' hK=> ?_ | with_reducible refine aS fun K' hK=> ?_);simp[s5,s9];refine acall_flat (hp2 i) rfl (su X i x0) ?_;simp;(first | refine hK _ _ _ ?_ | done);clear K' hK;have hdec:decide (pathOf t i=pathOf u i)= !underF t i k:=by
    rw[Bool.eq_iff_iff,decide_eq_true_eq,hpi];cases underF t i k<;>simp
   generalize underF t i k=un at*;(repeat with_reducible refine aA ?_);(first | with_reducible refine aQ fun K' hK=> ?_ | with_reducible refine aT fun K' hK=> ?_);refine aops_part 6 fun K2 hK2=> ?_;simp[s10,hdec];refine hK2 _ _ _ ?_;clear K2 hK2;refine aops_part 7 fun K2 hK2=> ?_;simp[s5,s9,y0,hiu,hiui];refine hK2 _ _ _ ?_;clear K2 hK2;refine aops_part 6 fun K2 hK2=> ?_;simp[s0,s9,hi2,hii,hnm1];refine hK2 _ _ _ ?_;clear K2 hK2;refine aops_part 6 fun K2 hK2=> ?_;simp[s5,s9,y0,hiu,hiui];refine hK2 _ _ _ ?_;clear K2 hK2;simp[s0,s9,hi2,hii,hnm2];(first | refine hK _ _ _ ?_ | done);clear K' hK;repeat with_reducible refine aA ?_
   (first | with_reducible refine aC fun A B hA hB=> ?_ | with_reducible refine aD fun A B hA hB=> ?_)
   simp;refine⟨fun hc=>hA ?_,fun hc=>hB ?_⟩<;>clear hA hB A B<;>(try (simp at hc;done))<;>(try (exfalso;simp at hc;omega))<;>clear hc<;>(try with_reducible refine aK ?_);(first | with_reducible refine aw_skipL ?_ | skip);refine blockK_normal ?_;(repeat with_reducible refine aA ?_);(first | with_reducible refine aR fun K' hK=> ?_ | with_reducible refine aS fun K' hK=> ?_);simp[s9,hw];(first | refine hK _ _ _ ?_ | done);clear K' hK;refine aw_skipL (loopK_normal ?_ ?_)
   ·exact⟨by simp[s0],by simp[s5],by simp[s7],x0,x1,i+1,by simp[hw],by omega⟩
   ·simp[o9,hw];omega
  ·(repeat with_reducible refine aA ?_);(first | with_reducible refine aw_exit ?_ | with_reducible refine aw_exitL ?_);refine loopK_exit (blockK_exit ?_);(repeat with_reducible refine aA ?_);(first | with_reducible refine aR fun K' hK=> ?_ | with_reducible refine aS fun K' hK=> ?_);simp;refine acall_flat hLs rfl (by first | rfl | (simp;done) | (simp;rfl) | (simp;exact⟨rfl,rfl⟩)) ?_;simp;(first | refine hK _ _ _ ?_ | done);clear K' hK;(repeat with_reducible refine aA ?_);(first | with_reducible refine aw_ret ?_ | with_reducible refine aw_retL ?_ | with_reducible refine aw_skipL ?_);simp[blockK,loopK,Post,resA,res1,expT,expA,exp1,expM,expL,okT,okA,ok1,rowOf,Tryz.f19]
 ·have hR:liftR t n=[]:=(by unfold liftR;rw[if_neg c0]);rw[hR];(repeat with_reducible refine aA ?_);(first | with_reducible refine aR fun K' hK=> ?_ | with_reducible refine aS fun K' hK=> ?_);simp[c0];(first | refine hK _ _ _ ?_ | done);clear K' hK;repeat with_reducible refine aA ?_
  (first | with_reducible refine aC fun A B hA hB=> ?_ | with_reducible refine aD fun A B hA hB=> ?_)
  simp;refine⟨fun hc=>hA ?_,fun hc=>hB ?_⟩<;>clear hA hB A B<;>(try (simp at hc;done))<;>(try (exfalso;simp at hc;omega))<;>clear hc<;>(try with_reducible refine aK ?_);(repeat with_reducible refine aA ?_);(first | with_reducible refine aR fun K' hK=> ?_ | with_reducible refine aS fun K' hK=> ?_);simp;refine acall_flat hLs rfl (by first | rfl | (simp;done) | (simp;rfl) | (simp;exact⟨rfl,rfl⟩)) ?_;simp;(first | refine hK _ _ _ ?_ | done);clear K' hK;(repeat with_reducible refine aA ?_);(first | with_reducible refine aw_ret ?_ | with_reducible refine aw_retL ?_ | with_reducible refine aw_skipL ?_);simp[blockK,loopK,Post,resA,res1,expT,expA,exp1,expM,expL,okT,okA,ok1,rowOf,Tryz.f19]
end Go.Proofs.YtgipehooceecpaaGreatDoorAbs
