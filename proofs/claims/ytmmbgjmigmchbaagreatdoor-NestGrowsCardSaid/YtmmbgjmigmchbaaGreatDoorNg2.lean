/- From the data of a statement's arguments to trees. -/
import Derived.Test.YtmmbgjmigmchbaaGreatDoorNg1
import Derived.RangeFuncIn
import Derived.RangeFuncRecord
import Derived.LoopIn
import Derived.Scope
import Derived.RangeFuncLeaves
import Derived.ChangeShapes
import Derived.ChangeArms
import Derived.WideShapes
import Derived.ShutString
import Derived.Carry
import Derived.ProofKit
import Derived.OpenShut
import Derived.SizedLaws
import Derived.ChangeOld
namespace Go.Proofs.YtmmbgjmigmchbaaGreatDoorAbs
set_option linter.unusedSectionVars false
set_option linter.unusedVariables false
set_option linter.unusedSimpArgs false
open Go Go.RowKit
def mJ:AV→Option Nat
 | .ptr id _=>some id
 | .row id _=>some id
 | .mp id=>some id
 | .ea b _=>mJ b
 | _=>none
def Vk (x y:Option AObj):Prop:=x=y∨(∃e cs,x=some (.row e cs)∧y=some (.frz e cs))∨(∃e cs,x=some (.frz e cs)∧y=some (.row e cs))
def oM (G G2:Hp) (a:AV):Prop:=∀id o,mJ a=some id→G id=some o→Vk (some o) (G2 id)
section
variable {P:Program} [Gl P] {s s':Sl} {G G' G2:Hp} {nx:Nat}
theorem Grows.refl (G:Hp):Grows G G:=fun _ _ h=> .inl h
theorem Grows.trans {G3:Hp} (h:Grows G G2) (k:Grows G2 G3):Grows G G3:=fun id o ho=>by
 rcases h id o ho with h1 | ⟨e,cs,rfl,h1⟩
 ·exact k id o h1
 ·rcases k id _ h1 with h2 | ⟨e',cs',h2,_⟩
  ·exact .inr ⟨e,cs,rfl,h2⟩
  ·cases h2
theorem Grows.at (h:Grows G G2) (a:AV):oM G G2 a:=fun id o _ hG=>by
 rcases h id o hG with h | ⟨e,cs,rfl,h⟩
 ·exact .inl h.symm
 ·exact .inr (.inl ⟨e,cs,rfl,h⟩)
theorem Grows.back (h:Grows G G2) {a:AV} (hK:∀id,mJ a=some id→∃o,G id=some o):oM G2 G a:=fun id o hr hG=>by
 obtain⟨o',ho'⟩:=hK id hr;rcases h id o' ho' with h | ⟨e,cs,rfl,h⟩
 ·rw[h]at hG;exact .inl (by rw[ho',hG])
 ·rw[h]at hG;injection hG with hG;subst hG;exact .inr (.inr ⟨e,cs,rfl,ho'⟩)
theorem Grows.upd (hn:G nx=none) (o:AObj):Grows G (G.upd nx o):=fun id o' h=> .inl (by rw[Hp.upd_ne _ _ (fun e=>by rw[e,hn]at h;cases h)];exact h)
theorem Grows.addJ {J:Js} (hn:∀j,nx≤j∧j-nx<J.length→G j=none):Grows G (addJ G nx J):=fun id o h=> .inl (by
 show(if nx≤id∧id-nx<J.length then ofJ J (id-nx)else G id)=some o;rw[if_neg (fun hc=>by rw[hn id hc]at h;cases h)];exact h)
theorem Grows.frz (a:AV):Grows G (bT G a):=fun id o h=>by
 (cases a<;>try exact .inl h);rename_i id' n;simp only[bT];cases hG:G id' with
 | none=>exact .inl h
 | some o'=>
  (cases o'<;>try exact .inl h);rename_i e cs;cases cs with
  | nil=>exact .inl h
  | cons c cs=>
   by_cases hi:id=id'
   ·subst hi;rw[h]at hG;injection hG with hG;subst hG;exact .inr ⟨_,_,rfl,Hp.bW _ _ _⟩
   ·exact .inl (by show G.upd id' _ id=_;rw[Hp.upd_ne _ _ hi];exact h)
theorem Grows.trees:∀ {as ts:List AV} {G G':Hp},bY P G as=some (ts,G')→Grows G G'
 | [],ts,G,G',h=>by simp[bY]at h;rw[←h.2];exact .refl _
 | a::as,ts,G,G',h=>by
  simp only[bY]at h;split at h
  ·rename_i t ts' G1 h1 h2;simp only[Option.some.injEq,Prod.mk.injEq]at h;obtain⟨_,rfl⟩:=h;exact(Grows.frz a).trans (Grows.trees h2)
  ·simp at h
theorem Grows.args:∀ {as ts:List AV} {G G':Hp},argsOf P G as=some (ts,G')→Grows G G'
 | [],ts,G,G',h=>by simp[argsOf]at h;rw[←h.2];exact .refl _
 | a::as,ts,G,G',h=>by
  cases a with
  | agg cs=>
   simp only[argsOf]at h;split at h
   ·rename_i ts1 G1 h1;split at h
    ·rename_i rs G2 h2;simp only[Option.some.injEq,Prod.mk.injEq]at h;obtain⟨_,rfl⟩:=h;exact(Grows.trees h1).trans (Grows.args h2)
    ·simp at h
   ·simp at h
  | _=>
   simp only[argsOf]at h;split at h
   ·rename_i t rs G2 h1 h2;simp only[Option.some.injEq,Prod.mk.injEq]at h;obtain⟨_,rfl⟩:=h;exact(Grows.frz _).trans (Grows.args h2)
   ·simp at h
theorem lG:∀ {as ts:List AV} {G G':Hp} {i:Nat},argsOf P G as=some (ts,G')→G i=none→G' i=none
 | [],ts,G,G',i,h,hn=>by simp[argsOf]at h;rw[←h.2];exact hn
 | a::as,ts,G,G',i,h,hn=>by
  cases a with
  | agg cs=>
   simp only[argsOf]at h;split at h
   ·rename_i ts1 G1 h1;split at h
    ·rename_i rs G2 h2;simp only[Option.some.injEq,Prod.mk.injEq]at h;obtain⟨_,rfl⟩:=h;exact lG h2 (iY h1 hn)
    ·simp at h
   ·simp at h
  | _=>
   simp only[argsOf]at h;split at h
   ·rename_i t rs G2 h1 h2;simp only[Option.some.injEq,Prod.mk.injEq]at h;obtain⟨_,rfl⟩:=h;exact lG h2 (sW hn)
   ·simp at h
theorem ML {a:AV} {cs:List AV} (hs:oM G G2 a) (h:rC G a=some cs):rC G2 a=some cs:=by
 cases a with
 | ptr id off=>
  simp only[rC]at h⊢;cases hG:G id with
  | none=>simp[hG]at h
  | some o=>
   cases o<;>simp[hG]at h;rcases hs id _ rfl hG with h1 | ⟨e,cs,h1,_⟩ | ⟨e,cs,h1,_⟩
   ·rw[←h1];simp[h]
   ·cases h1
   ·cases h1
 | ea b off=>
  cases b with
  | sl n cs=>exact h
  | row id n=>
   simp only[rC]at h⊢;cases hG:G id with
   | none=>simp[hG]at h
   | some o=>
    cases o<;>simp[hG]at h;all_goals
     rcases hs id _ rfl hG with h1 | ⟨e,cs,h1,h2⟩ | ⟨e,cs,h1,h2⟩
     ·rw[←h1];simp[h]
     ·cases h1<;>(rw[h2];simp[h])
     ·cases h1<;>(rw[h2];simp[h])
  | _=>simp[rC]at h
 | cp cs off=>exact h
 | _=>simp[rC]at h
theorem GV {a:AV} (hs:oM G G2 a) (h:adr G a=true):adr G2 a=true:=by
 unfold adr at h⊢;split at h
 ·rename_i hr;rw[ML hs hr]
 ·simp at h
theorem MW {a:AV} {n:Nat} (hs:oM G G2 a) (hl:QZ G a=some n):QZ G2 a=some n:=by
 cases a<;>simp[QZ]at hl⊢
 ·exact hl
 ·rename_i id m;cases hG:G id with
  | none=>simp[hG]at hl
  | some ob=>
   simp[hG]at hl;rcases hs id ob rfl hG with h3 | ⟨e,cs,h3,h4⟩ | ⟨e,cs,h3,h4⟩
   ·rw[←h3];simp[hl]
   ·injection h3 with h3;subst h3;rw[h4];simp[AObj.alive,hl.2]
   ·injection h3 with h3;subst h3;rw[h4];simp[AObj.alive,hl.2]
theorem Nj {t:TypeId} {a v:AV} (hs:oM G G2 a) (hl:zJ P G t a=some v):zJ P G2 t a=some v:=by
 cases a with
 | row id n=>
  simp only[zJ]at hl⊢;split at hl
  ·rename_i h1 h2;rw[MW hs h1,h2];exact hl
  ·cases hl
 | v x=>rw[Qr P G2 G];exact hl
 | _=>exact hl
theorem evC_read {o:Oper} (hc:clsOf o=1) {val:AV} {nx':Nat} (h:evC P s G nx o=some (val,G',nx')):
  G'=G∧∀G2 nx2,(∀x∈o.op.operands,oM G G2 (evX s x))→evC P s G2 nx2 o=some (val,G2,nx2):=by
 unfold clsOf at hc;split at hc<;>try (cases hc;done)
 ·rename_i t a hop;simp only[evC,hop,iq,Option.map_eq_some_iff,Prod.mk.injEq]at h;obtain⟨v,hv,rfl,rfl,rfl⟩:=h;refine⟨rfl,fun G2 nx2 hs=> ?_⟩;cases hg:tN P t a with
  | some v'=>
   rw[hg]at hv;have hv2:some v'=some v:=hv;injection hv2 with hv2;simp only[evC,hop,iq,hg];rw[hv2];rfl
  | none=>
  rw[hg]at hv;have hv:iG P G t (evX s a)=some v:=hv;have:iG P G2 t (evX s a)=some v:=by
   unfold iG at hv⊢;split at hv
   ·rename_i h1 h2;rw[h1,ML (hs a (by simp[hop,Op.operands])) h2];exact hv
   ·cases hv
  simp only[evC,hop,iq,hg,this,Option.map_some]
 ·rename_i x hop;simp only[evC,hop,iq]at h⊢;split at h
  ·rename_i hA;simp only[Option.some.injEq,Prod.mk.injEq]at h;obtain⟨rfl,rfl,rfl⟩:=h;exact⟨rfl,fun G2 nx2 hs=>by rw[if_pos (GV (hs x (by simp[hop,Op.operands])) hA)]⟩
  ·split at h
   ·rename_i f cs he;simp only[Option.some.injEq,Prod.mk.injEq]at h;obtain⟨rfl,rfl,rfl⟩:=h;exact⟨rfl,fun G2 nx2 hs=>by simp[he,adr,rC]⟩
   ·cases h
 ·rename_i t x f hop;simp only[evC,hop,iq]at h⊢;split at h
  ·rename_i off b k hf;split at h
   ·rename_i hA;split at h;all_goals first
     | (cases h;done)
     | (simp only[Option.some.injEq,Prod.mk.injEq]at h
        obtain⟨rfl,rfl,rfl⟩:=h;refine⟨rfl,fun G2 nx2 hs=> ?_⟩;have:=GV (hs x (by simp[hop,Op.operands])) hA
        simp_all)
   ·cases h
  ·cases h
 ·rename_i t x i hop;simp only[evC,hop,iq,Option.map_eq_some_iff,Prod.mk.injEq]at h;obtain⟨v,hv,rfl,rfl,rfl⟩:=h;refine⟨rfl,fun G2 nx2 hs=> ?_⟩;have hs1:=hs x (by simp[hop,Op.operands]);have:fA P G2 t (evX s x) (evX s i)=some v:=by
   generalize evX s x=a at hv hs1;unfold fA at hv⊢;cases hel:elI P t with
   | none=>simp[hel]at hv
   | some q=>
    obtain⟨e,k,by',z⟩:=q;cases hi:evX s i with
    | v y=>
     cases y<;>simp[hel,hi]at hv⊢;cases a<;>simp at hv⊢
     ·exact hv
     ·rename_i id m;cases hG:G id with
      | none=>simp[hG]at hv
      | some ob=>
       simp[hG]at hv;rcases hs1 id ob rfl hG with h3 | ⟨e,cs,h3,h4⟩ | ⟨e,cs,h3,h4⟩
       ·rw[←h3];simp[hv]
       ·injection h3 with h3;subst h3;rw[h4];simpa [AObj.alive]using hv
       ·injection h3 with h3;subst h3;rw[h4];simpa [AObj.alive]using hv
    | _=>simp[hel,hi]at hv
  simp only[evC,hop,iq,this,Option.map_some]
 ·rename_i t x k ok hop;simp only[evC,hop,Option.map_eq_some_iff,Prod.mk.injEq]at h;obtain⟨v,hv,rfl,rfl,rfl⟩:=h;refine⟨rfl,fun G2 nx2 hs=> ?_⟩;have hs1:=hs x (by simp[hop,Op.operands]);have:iP P G2 t (evX s x) (evX s k) ok=some v:=by
   generalize evX s x=a at hv hs1;unfold iP at hv⊢;cases hm:PE P t with
   | none=>simp[hm]at hv
   | some q=>
    obtain⟨key,d,elem⟩:=q;(cases a<;>simp only[hm]at hv⊢<;>try (cases hv;done));rename_i id;cases hk:zf (evX s k)with
    | none=>rw[hk]at hv;cases hv
    | some kv=>
     simp only[hk]at hv⊢;cases hG:G id with
     | none=>rw[hG]at hv;cases hv
     | some ob=>
      rcases hs1 id ob rfl hG with h3 | ⟨e,cs,h3,h4⟩ | ⟨e,cs,h3,h4⟩
      ·rw[←h3];rw[hG]at hv;exact hv
      ·injection h3 with h3;subst h3;rw[hG]at hv;cases hv
      ·injection h3 with h3;subst h3;rw[hG]at hv;cases hv
  simp only[evC,hop,this,Option.map_some]
 ·rename_i c hop;(split at hc<;>try (cases hc;done));rename_i hcal;simp only[evC,hop,hcal]at h⊢;split at h
  ·rename_i x t hx ht;have hs1:∀G2,(∀y∈(Op.call c).operands,oM G G2 (evX s y))→oM G G2 (evX s x):=fun G2 hs=>hs x (by simp only[Op.operands,Call.operands,Array.mem_append];exact .inr (by rw[toA hx];simp));simp only[Option.map_eq_some_iff,Prod.mk.injEq]at h;obtain⟨v,hv,rfl,rfl,rfl⟩:=h;refine⟨rfl,fun G2 nx2 hs=> ?_⟩;rw[show zJ P G2 t (evX s x)=some v from Nj (hs1 G2 hs) hv,Option.map_some]
  ·cases h
theorem P8 {o:Oper} (hc:clsOf o=2) {val:AV} {nx':Nat} (hn:G nx=none) (h:evC P s G nx o=some (val,G',nx')):Grows G G':=by
 unfold clsOf at hc;split at hc<;>try (cases hc;done)
 ·rename_i hop;simp only[evC,hop]at h;split at h
  ·simp only[Option.some.injEq,Prod.mk.injEq]at h;obtain⟨_,rfl,_⟩:=h;exact .upd hn _
  ·cases h
 ·rename_i t hop;simp only[evC,hop,iq]at h;split at h
  ·simp only[Option.some.injEq,Prod.mk.injEq]at h;obtain⟨_,rfl,_⟩:=h;exact .upd hn _
  ·cases h
 ·rename_i t x hop;simp only[evC,hop,iq]at h;split at h
  ·simp only[Option.some.injEq,Prod.mk.injEq]at h;obtain⟨_,rfl,_⟩:=h;exact .upd hn _
  ·cases h
 ·rename_i t n ps hop;simp only[evC,hop,iq]at h;split at h
  ·split at h
   ·split at h
    ·rename_i ts G1 ht;simp only[Option.some.injEq,Prod.mk.injEq]at h;obtain⟨_,rfl,_⟩:=h;exact(Grows.trees ht).trans (.upd (iY ht hn) _)
    ·split at h
     ·simp only[Option.some.injEq,Prod.mk.injEq]at h;obtain⟨_,rfl,_⟩:=h;exact .upd hn _
     ·cases h
   ·cases h
  ·cases h
 ·rename_i t r hop;cases r with
  | none=>
   simp only[evC,hop]at h;split at h
   ·simp only[Option.some.injEq,Prod.mk.injEq]at h;obtain⟨_,rfl,_⟩:=h;exact .upd hn _
   ·cases h
  | some r=>
   simp only[evC,hop,iq]at h;cases h
 ·rename_i c hop;(split at hc<;>try (cases hc;done));rename_i f hcal;simp only[evC,hop,hcal]at h;cases h
theorem zA {o:Oper} {val:AV} {nx':Nat} (h:evC P s G nx o=some (val,G',nx')):(nx'=nx∧∀i,G i=none→G' i=none)∨(nx'=nx+1∧∀i,i≠nx→G i=none→G' i=none):=by
 have up:∀ {G:Hp} {x:AObj},∀i,i≠nx→G i=none→G.upd nx x i=none:=fun i hi hn=>(by rw[Hp.upd_ne _ _ hi];exact hn);unfold evC at h;split at h
 ·split at h
  ·split at h
   ·simp only[Option.map_eq_some_iff,Prod.mk.injEq]at h;obtain⟨_,_,_,rfl,rfl⟩:=h;exact .inl ⟨rfl,fun _ h=>h⟩
   ·cases h
  ·split at h
   ·split at h
    ·unfold og at h;split at h
     ·cases h
     ·split at h
      ·rename_i n cs id m ms hb hs;split at h
       ·simp only[Option.some.injEq,Prod.mk.injEq]at h;obtain⟨_,rfl,rfl⟩:=h;refine .inr ⟨rfl,fun i hi hn=>up i hi ?_⟩;cases id with
        | none=>exact hn
        | some j=>
         unfold mD at hb;split at hb
         ·cases hb
         ·split at hb
          ·rename_i e' cs' hG;split at hb
           ·simp only[Option.some.injEq,Prod.mk.injEq]at hb;obtain⟨_,_,rfl⟩:=hb;exact(Hp.upd_ne _ _ (fun e=>by rw[e,hG]at hn;cases hn)).trans hn
           ·cases hb
          ·cases hb
         ·cases hb
       ·cases h
      ·cases h
    ·cases h
   ·cases h
  ·split at h
   ·simp only[Option.map_eq_some_iff,Prod.mk.injEq]at h;obtain⟨_,_,_,rfl,rfl⟩:=h;exact .inl ⟨rfl,fun i hn=>hn⟩
   ·cases h
  ·cases h
 ·split at h
  ·simp only[Option.some.injEq,Prod.mk.injEq]at h;obtain⟨_,rfl,rfl⟩:=h;exact .inr ⟨rfl,fun i hi hn=>up i hi hn⟩
  ·cases h
 ·split at h
  ·simp only[Option.some.injEq,Prod.mk.injEq]at h;obtain⟨_,rfl,rfl⟩:=h;exact .inl ⟨rfl,fun _ h=>h⟩
  ·simp only[iq]at h;split at h
   ·simp only[Option.map_eq_some_iff,Prod.mk.injEq]at h;obtain⟨_,_,_,rfl,rfl⟩:=h;exact .inl ⟨rfl,fun _ h=>h⟩
   ·cases h
 ·split at h
  ·simp only[Option.some.injEq,Prod.mk.injEq]at h;obtain⟨_,rfl,rfl⟩:=h;exact .inr ⟨rfl,fun i hi hn=>up i hi hn⟩
  ·cases h
 ·simp only[Option.map_eq_some_iff,Prod.mk.injEq]at h;obtain⟨_,_,_,rfl,rfl⟩:=h;exact .inl ⟨rfl,fun _ h=>h⟩
 ·simp only[Option.map_eq_some_iff,Prod.mk.injEq]at h;obtain⟨G1,hv,_,rfl,rfl⟩:=h;refine .inl ⟨rfl,fun i hn=> ?_⟩;unfold fK at hv
  repeat' split at hv
  all_goals first
   | (cases hv;done)
   | (injection hv with hv;subst hv;rw[Hp.upd_ne _ _ (fun e=>by simp_all)];exact hn)
 ·simp only[Option.map_eq_some_iff,Prod.mk.injEq]at h;obtain⟨G1,hv,_,rfl,rfl⟩:=h;refine .inl ⟨rfl,fun i hn=> ?_⟩;unfold fK at hv
  repeat' split at hv
  all_goals first
   | (cases hv;done)
   | (injection hv with hv;subst hv;rw[Hp.upd_ne _ _ (fun e=>by simp_all)];exact hn)
 ·unfold x9 at h;split at h
  ·split at h
   ·simp only[Option.some.injEq,Prod.mk.injEq]at h;obtain⟨_,rfl,rfl⟩:=h;exact .inr ⟨rfl,fun i hi hn=>up i hi hn⟩
   ·cases h
  ·cases h
 ·generalize o.op=op at h;cases op<;>simp only[iq]at h<;>try (cases h;done)
  case store t a v=>
   simp only[Option.map_eq_some_iff,Prod.mk.injEq]at h;obtain⟨_,hv,_,rfl,rfl⟩:=h;exact .inl ⟨rfl,fun i hn=>Bj hv hn⟩
  case buildSlice t n ps=>
   split at h
   ·split at h
    ·split at h
     ·rename_i ts G1 ht;simp only[Option.some.injEq,Prod.mk.injEq]at h;obtain⟨_,rfl,rfl⟩:=h;exact .inr ⟨rfl,fun i hi hn=>up i hi (iY ht hn)⟩
     ·split at h
      ·simp only[Option.some.injEq,Prod.mk.injEq]at h;obtain⟨_,rfl,rfl⟩:=h;exact .inr ⟨rfl,fun i hi hn=>up i hi hn⟩
      ·cases h
    ·cases h
   ·cases h
  case slice t x lo hi mx=>
   (cases mx<;>simp only[iq]at h<;>try (cases h;done));split at h
   ·unfold yx at h
    repeat' split at h
    all_goals first
     | (cases h;done)
     | (rename_i hG _ _ _;simp only[Option.some.injEq,Prod.mk.injEq]at h;obtain⟨_,rfl,rfl⟩:=h;exact .inr ⟨rfl,fun i hi hn=>by
       rw[Hp.upd_ne _ _ hi];show Hp.upd _ _ _ _=_;rw[Hp.upd_ne _ _ (fun e=>by subst e;rw[hG]at hn;cases hn)];exact hn⟩)
   simp only[Option.map_eq_some_iff,Prod.mk.injEq]at h;obtain⟨r,hr,_,rfl,rfl⟩:=h;refine .inl ⟨rfl,fun i hn=> ?_⟩;split at hr
   ·unfold Jk at hr
    repeat' split at hr
    all_goals first
     | (cases hr;done)
     | (rename_i hG _ _ _;injection hr with hr;subst hr;show Hp.upd _ _ _ _=_;rw[Hp.upd_ne _ _ (fun e=>by subst e;rw[hn]at hG;cases hG)];exact hn)
   unfold eH at hr
   repeat' split at hr
   all_goals first
    | (cases hr;done)
    | (injection hr with hr;subst hr;first | exact hn | exact sW hn)
  case makeFunc fn first caps=>
   (cases fn<;>simp only[iq]at h<;>try (cases h;done));split at h
   ·simp only[Option.some.injEq,Prod.mk.injEq]at h;obtain⟨_,rfl,rfl⟩:=h;exact .inl ⟨rfl,fun _ h=>h⟩
   ·split at h
    ·simp only[Option.some.injEq,Prod.mk.injEq]at h;obtain⟨_,rfl,rfl⟩:=h;exact .inl ⟨rfl,fun _ h=>h⟩
    ·cases h
  all_goals
   (repeat' split at h)
   all_goals first
    | (cases h;done)
    | (simp only[Option.some.injEq,Prod.mk.injEq]at h;obtain⟨_,rfl,rfl⟩:=h;first | exact .inl ⟨rfl,fun _ h=>h⟩ | exact .inr ⟨rfl,fun i hi hn=>up i hi hn⟩)
    | (simp only[Option.map_eq_some_iff,Prod.mk.injEq]at h;obtain⟨_,_,_,rfl,rfl⟩:=h;exact .inl ⟨rfl,fun _ h=>h⟩)
end
inductive Eff (P:Program) [Gl P] (ops:Array Oper) (o:Oper) (s:Sl) (G:Hp):AV→Hp→Prop
 | off (hw:wantA ops o s=some false):Eff P ops o s G .und G
 | op {G':Hp} {val:AV} {nx nx':Nat} (hw:wantA ops o s=some true) (hm:mustPure ops o=false) (hn:G nx=none) (he:evC P s G nx o=some (val,G',nx')):Eff P ops o s G val G'
 | pure {val:AV} (hw:wantA ops o s=some true) (hm:mustPure ops o=true) (hp:pureA P s o=some val):Eff P ops o s G val G
 | call {G':Hp} {f:FuncId} {as ts:List AV} {r:AV} {J:Js} {nx:Nat} (hw:wantA ops o s=some true) (hc:callA s o=some (f,as)) (ha:argsOf P G as=some (ts,G'))
   (hn:∀j,nx≤j∧j-nx<J.length→G j=Option.none) (hk:CallsOK P f ts r J):Eff P ops o s G (shiftT nx r) (addJ G' nx J)
 | keep {f:FuncId} {as ts:List AV} {r:AV} {J:Js} {nx:Nat} (hw:wantA ops o s=some true) (hc:callA s o=some (f,as)) (ha:seesA P G as=some ts)
   (hn:∀j,nx≤j∧j-nx<J.length→G j=Option.none) (hk:CallsOK P f ts r J) (hkeep:flatR r=true∧flatJ J=true):Eff P ops o s G (shiftT nx r) (addJ G nx J)
 | inl {G':Hp} {f:FuncId} {as:List AV} {v:AV} (hw:wantA ops o s=some true) (hc:callA s o=some (f,as)) (hne:as≠[]∧Gl.inl P f=true) (hk:InlOK P f as G v G') (hg:clsOf o=3∨Grows G G') (hfin:Fin G→Fin G'):Eff P ops o s G v G'
section
variable {P:Program} [Gl P] {N:Nat} {ops:Array Oper} {s s' s1 s2:Sl} {G G' G1 G2:Hp}
theorem dG {i:Nat} {o:Oper} (hi:ops[i]? =some o):Step P N ops i s G s' G'↔dstOK N o=true∧∃val,s'=s.put o.dst val∧Eff P ops o s G val G':=by
 constructor
 ·intro h;cases h with
  | none h=>rw[hi]at h;cases h
  | off h hd hw=>rw[hi]at h;injection h with h;subst h;exact⟨hd,_,rfl,.off hw⟩
  | op h hd hw hm hn he=>rw[hi]at h;injection h with h;subst h;exact⟨hd,_,rfl,.op hw hm hn he⟩
  | pure h hd hw hm hp=>rw[hi]at h;injection h with h;subst h;exact⟨hd,_,rfl,.pure hw hm hp⟩
  | call h hd hw hc ha hn hk=>rw[hi]at h;injection h with h;subst h;exact⟨hd,_,rfl,.call hw hc ha hn hk⟩
  | keep h hd hw hc ha hn hk hkeep=>rw[hi]at h;injection h with h;subst h;exact⟨hd,_,rfl,.keep hw hc ha hn hk hkeep⟩
  | inl h hd hw hc hne hk hg hf=>rw[hi]at h;injection h with h;subst h;exact⟨hd,_,rfl,.inl hw hc hne hk hg hf⟩
 ·rintro⟨hd,val,rfl,h⟩;cases h with
  | off hw=>exact .off hi hd hw
  | op hw hm hn he=>exact .op hi hd hw hm hn he
  | pure hw hm hp=>exact .pure hi hd hw hm hp
  | call hw hc ha hn hk=>exact .call hi hd hw hc ha hn hk
  | keep hw hc ha hn hk hkeep=>exact .keep hi hd hw hc ha hn hk hkeep
  | inl hw hc hne hk hg hf=>exact .inl hi hd hw hc hne hk hg hf
theorem zF {nx:Nat} {J:Js} (h:Fin G):Fin (addJ G nx J):=by
 obtain⟨n,h⟩:=h;refine⟨n+nx+J.length,fun i hi=> ?_⟩;show(if nx≤i∧i-nx<J.length then ofJ J (i-nx)else G i)=none;rw[if_neg (by omega)];exact h i (by omega)
theorem Eff.fin {o:Oper} {val:AV} (h:Eff P ops o s G val G') (hf:Fin G):Fin G':=by
 cases h with
 | off=>exact hf
 | pure=>exact hf
 | @op _ _ nx nx' hw hm hn he=>
  obtain⟨n,hf⟩:=hf;rcases zA he with⟨_,h2⟩ | ⟨_,h2⟩
  ·exact⟨n,fun i hi=>h2 i (hf i hi)⟩
  ·exact⟨n+nx+1,fun i hi=>h2 i (by omega) (hf i (by omega))⟩
 | call hw hc ha hn hk=>
  obtain⟨n,hf⟩:=hf;exact zF ⟨n,fun i hi=>lG ha (hf i hi)⟩
 | keep hw hc ha hn hk=>exact zF hf
 | inl hw hc hne hk hg hfin=>exact hfin hf
def Same (ops:Array Oper) (o:Oper) (s s':Sl):Prop:=(∀x∈o.op.operands,evX s' x=evX s x)∧wantA ops o s'=wantA ops o s
theorem lJ {o:Oper} {r:FuncId×List AV} (h:callA s o=some r):2≤clsOf o:=by
 unfold callA at h;split at h
 ·rename_i c hop;split at h
  ·rename_i f' hc;simp only[clsOf,hop,hc];omega
  ·rename_i t hc;simp only[clsOf,hop,hc];omega
  ·cases h
 ·cases h
theorem I7 {o:Oper} (hs:∀x∈o.op.operands,evX s' x=evX s x):callA s' o=callA s o:=by
 unfold callA;split
 ·rename_i c hop;rw[hop]at hs;have args:c.args.toList.map (evX s')=c.args.toList.map (evX s):=List.map_congr_left fun x hx=>hs x (by simp only[Op.operands,Call.operands,Array.mem_append];exact .inr (by simpa using hx));split
  ·rw[args]
  ·rename_i t hc;have ht:s' t=s t:=hs (.tmp t) (by simp[Op.operands,Call.operands,hc]);rw[args,ht]
  ·rfl
 ·rfl
theorem jy {o:Oper} {r:FuncId×List AV} (h:callA s o=some r):mustPure ops o=false:=by
 unfold callA at h;split at h
 ·rename_i c hop;split at h
  ·rename_i f' hc;simp[mustPure,hop,hc]
  ·rename_i t hc;simp[mustPure,hop,hc]
  ·cases h
 ·cases h
theorem D5 {o:Oper} (hs:∀x∈o.op.operands,evX s' x=evX s x):pureA P s' o=pureA P s o:=by
 unfold pureA;split
 ·rename_i t n ps hop;rw[hop]at hs;have h1:∀p∈ps.toList,evX s' p.2=evX s p.2:=fun p hp=>hs p.2 (by simp only[Op.operands,List.mem_toArray,List.mem_map];exact⟨p,hp,rfl⟩);have e1:(ps.toList.flatMap fun p=>(evX s' p.2).cells)=ps.toList.flatMap fun p=>(evX s p.2).cells:=by
   rw[List.flatMap_def,List.flatMap_def];congr 1;exact List.map_congr_left fun p hp=>by rw[h1 p hp]
  have e2:∀k,(ps.toList.all fun p=>decide ((evX s' p.2).cells.length=k)&&(evX s' p.2).cells.all fun a=>AV.one a&&isVal a)=ps.toList.all fun p=>decide ((evX s p.2).cells.length=k)&&(evX s p.2).cells.all fun a=>AV.one a&&isVal a:=by
   intro k;rw[Bool.eq_iff_iff,List.all_eq_true,List.all_eq_true];exact⟨fun hh p hp=>by rw[←h1 p hp];exact hh p hp,fun hh p hp=>by rw[h1 p hp];exact hh p hp⟩
  simp only[e1,e2]
 ·rename_i c hop;rw[hop]at hs;split
  ·split
   ·rename_i x t hx ht;have:evX s' x=evX s x:=hs x (by simp only[Op.operands,Call.operands,Array.mem_append];exact .inr (by simp[←Array.mem_toList_iff,hx]));rw[this]
   ·rfl
  ·rfl
 ·rfl
theorem Eff.congr {o:Oper} {val:AV} (hs:Same ops o s s') (h:Eff P ops o s G val G'):Eff P ops o s' G val G':=by
 have hc':=I7 hs.1;cases h with
 | off hw=>exact .off (hs.2.trans hw)
 | op hw hm hn he=>exact .op (hs.2.trans hw) hm hn ((J9 hs.1).trans he)
 | pure hw hm hp=>exact .pure (hs.2.trans hw) hm ((D5 hs.1).trans hp)
 | call hw hc ha hn hk=>exact .call (hs.2.trans hw) (hc'.trans hc) ha hn hk
 | keep hw hc ha hn hk hkeep=>exact .keep (hs.2.trans hw) (hc'.trans hc) ha hn hk hkeep
 | inl hw hc hne hk hg hf=>exact .inl (hs.2.trans hw) (hc'.trans hc) hne hk hg hf
theorem RP {o:Oper} (hc:clsOf o=0) {val:AV} {nx nx':Nat} (h:evC P s G nx o=some (val,G',nx')):G'=G∧∀G2 nx2,evC P s G2 nx2 o=some (val,G2,nx2):=by
 have as:∀x,o.op=.assign x→(x=.const (.slice none 0 0)→False)→∀G nx,evC P s G nx o=iq P s G nx (.assign x):=by
  intro x hop hx G nx;unfold evC;split
  ·rename_i h1;rw[hop]at h1;cases h1
  ·rename_i h1;rw[hop]at h1;injection h1 with h1;exact(hx h1).elim
  ·rename_i h1;rw[hop]at h1;cases h1
  ·rename_i h1;rw[hop]at h1;cases h1
  ·rename_i h1;rw[hop]at h1;cases h1
  ·rename_i h1;rw[hop]at h1;cases h1
  ·rename_i h1;rw[hop]at h1;cases h1
  ·rename_i h1;rw[hop]at h1;cases h1
  ·rw[hop]
 have bin:∀op t x y z,o.op=.binOp op t x y z→∀G nx,evC P s G nx o=match qw P op t (evX s x) (evX s y)with | some v=>some (v,G,nx) | none=>iq P s G nx (.binOp op t x y z):=by
  intro op t x y z hop G nx;unfold evC;rw[hop];rfl
 unfold clsOf at hc;split at hc<;>rename_i hop<;>try (cases hc;done)
 case h_4 op t x y z=>
  rw[bin op t x y z hop]at h;simp only[bin op t x y z hop];split at h
  ·simp only[Option.some.injEq,Prod.mk.injEq]at h;obtain⟨rfl,rfl,rfl⟩:=h;exact⟨rfl,fun _ _=>rfl⟩
  ·exact zu trivial h
 all_goals first
  | (unfold evC at h⊢;rw[hop]at h⊢;exact zu trivial h)
  | skip
 ·rename_i hx;simp only[as _ hop hx]at h⊢;exact zu trivial h
 ·split at hc<;>cases hc
theorem iy {o:Oper} (hm:mustPure ops o=false):kG ops o=clsOf o:=by simp[kG,hm]
theorem DC {o:Oper} (hm:mustPure ops o=true):kG ops o=0:=by simp[kG,hm]
theorem Eff.val {o:Oper} (hc:kG ops o=0) {val:AV} (h:Eff P ops o s G val G'):G'=G∧∀G2,Fin G2→Eff P ops o s G2 val G2:=by
 cases h with
 | off hw=>exact⟨rfl,fun G2 _=> .off hw⟩
 | pure hw hm hp=>exact⟨rfl,fun G2 _=> .pure hw hm hp⟩
 | op hw hm hn he=>
  obtain⟨h1,h2⟩:=RP ((iy hm).symm.trans hc) he;exact⟨h1,fun G2 ⟨n,hf⟩=> .op hw hm (hf n (Nat.le_refl _)) (h2 G2 n)⟩
 | call hw hc'=>have:=lJ hc';rw[iy (jy hc')]at hc;omega
 | keep hw hc'=>have:=lJ hc';rw[iy (jy hc')]at hc;omega
 | inl hw hc'=>have:=lJ hc';rw[iy (jy hc')]at hc;omega
theorem Eff.read {o:Oper} (hc:kG ops o=1) {val:AV} (h:Eff P ops o s G val G'):G'=G∧∀G2,Fin G2→(∀x∈o.op.operands,oM G G2 (evX s x))→Eff P ops o s G2 val G2:=by
 cases h with
 | off hw=>exact⟨rfl,fun G2 _ _=> .off hw⟩
 | pure hw hm hp=>rw[DC hm]at hc;cases hc
 | op hw hm hn he=>
  obtain⟨h1,h2⟩:=evC_read ((iy hm).symm.trans hc) he;exact⟨h1,fun G2 ⟨n,hf⟩ hs=> .op hw hm (hf n (Nat.le_refl _)) (h2 G2 n hs)⟩
 | call hw hc'=>have:=lJ hc';rw[iy (jy hc')]at hc;omega
 | keep hw hc'=>have:=lJ hc';rw[iy (jy hc')]at hc;omega
 | inl hw hc'=>have:=lJ hc';rw[iy (jy hc')]at hc;omega
theorem Eff.make {o:Oper} (hc:kG ops o=2) {val:AV} (h:Eff P ops o s G val G'):Grows G G':=by
 cases h with
 | off hw=>exact .refl _
 | pure hw hm hp=>rw[DC hm]at hc;cases hc
 | op hw hm hn he=>exact P8 ((iy hm).symm.trans hc) hn he
 | call hw hc' ha hn hk=>exact(Grows.args ha).trans (.addJ fun j hj=>lG ha (hn j hj))
 | keep hw hc' ha hn hk=>exact .addJ hn
 | inl hw hc' hne hk hg hf=>exact hg.resolve_left (by rw[iy (jy hc')]at hc;omega)
theorem Eff.grows {o:Oper} (hc:kG ops o≤2) {val:AV} (h:Eff P ops o s G val G'):Grows G G':=by
 rcases Nat.lt_or_ge (kG ops o) 2 with h1 | h1
 ·rcases Nat.lt_or_ge (kG ops o) 1 with h2 | h2
  ·rw[(h.val (by omega)).1];exact .refl _
  ·rw[(h.read (by omega)).1];exact .refl _
 ·exact h.make (by omega)
def compat (ops:Array Oper) (x y:Oper):Bool:=kG ops x==0 || kG ops y==0 || (kG ops x==1&&kG ops y==1) || (kG ops x==1&&kG ops y==2) || (kG ops x==2&&kG ops y==1)
theorem eP {x y:Oper} {v:AV} (h:∀d,x.dst=some d→d∉y.looksAt ops):Same ops y s (s.put x.dst v):=by
 cases hd:x.dst with
 | none=>exact⟨fun _ _=>rfl,rfl⟩
 | some d=>
  have h1:=h d hd;refine⟨fun z hz=> ?_,?_⟩
  ·cases z with
   | tmp t=>
    show(s.upd d v) t=s t;refine Sl.upd_ne _ _ fun e=>h1 ?_;subst e;unfold Oper.looksAt;exact List.mem_append_left _ (List.mem_filterMap.2 ⟨_,by simpa using hz,rfl⟩)
   | _=>rfl
  ·unfold wantA;cases hg:y.guard with
   | none=>rfl
   | some g=>
    obtain⟨g,b⟩:=g;simp only;cases ht:(ops[g]?).bind (·.dst)with
    | none=>rfl
    | some t=>
     have:(s.put (some d) v) t=s t:=Sl.upd_ne _ _ fun e=>h1 (by
      subst e;unfold Oper.looksAt;exact List.mem_append_right _ (by simp[hg,ht]))
     simp only[this]
theorem put_comm {d e:Option Tmp} {u v:AV} (h:∀t,d=some t→e≠some t):(s.put d u).put e v=(s.put e v).put d u:=by
 cases d with
 | none=>rfl
 | some d=>
  cases e with
  | none=>rfl
  | some e=>
   have:d≠e:=fun hde=>h d rfl (by rw[hde]);funext t;simp only[Sl.put,Sl.upd];by_cases h1:t=e<;>by_cases h2:t=d<;>simp_all
theorem swap {i j:Nat} {oi oj:Oper} (hi:ops[i]? =some oi) (hj:ops[j]? =some oj) (hap:oj.apart ops oi=true) (hc:compat ops oj oi=true) (hf:Fin G) (hK:kG ops oi=0∨∀x∈oi.op.operands,∀id,mJ (evX s x)=some id→∃o,G id=some o)
  (h1:Step P N ops j s G s1 G1) (h2:Step P N ops i s1 G1 s2 G2):∃s1' G1',Step P N ops i s G s1' G1'∧Step P N ops j s1' G1' s2 G2:=by
 obtain⟨a1,a2,a3⟩:=Oper.apart_spec hap;obtain⟨hd1,u,rfl,e1⟩:=(dG hj).1 h1;obtain⟨hd2,v,rfl,e2⟩:=(dG hi).1 h2;have si:Same ops oi s (s.put oj.dst u):=eP a1;have si':Same ops oi (s.put oj.dst u) s:=⟨fun x hx=>(si.1 x hx).symm,si.2.symm⟩;have sj:Same ops oj s (s.put oi.dst v):=eP a3;have e2':=e2.congr si';have fin:∀ {G1':Hp},Eff P ops oi s G v G1'→Eff P ops oj s G1' u G2→∃s1' G1',Step P N ops i s G s1' G1'∧Step P N ops j s1' G1' ((s.put oj.dst u).put oi.dst v) G2:=by
  intro G1' x1 x2;exact⟨_,_,(dG hi).2 ⟨hd2,v,rfl,x1⟩,(dG hj).2 ⟨hd1,u,put_comm a2,x2.congr sj⟩⟩
 by_cases ci:kG ops oi=0
 ·obtain⟨q1,q2⟩:=e2'.val ci;subst q1;exact fin (q2 G hf) e1
 by_cases cj:kG ops oj=0
 ·obtain⟨q1,q2⟩:=e1.val cj;subst q1;exact fin e2' (q2 G2 (e2.fin hf))
 have hK:=hK.resolve_left ci;simp only[compat,Bool.or_eq_true,Bool.and_eq_true,beq_iff_eq]at hc;rcases hc with(((hc | hc) | hc) | hc) | hc
 ·exact absurd hc cj
 ·exact absurd hc ci
 ·obtain⟨q1,_⟩:=e1.read hc.1;obtain⟨q2,_⟩:=e2'.read hc.2;subst q1;subst q2;exact fin e2' e1
 ·obtain⟨q1,q2⟩:=e1.read hc.1;subst q1;exact fin e2' (q2 G2 (e2.fin hf) fun x _=>(e2'.make hc.2).at _)
 ·obtain⟨q1,q2⟩:=e2'.read hc.2;subst q1;exact fin (q2 G hf fun x hx=>(e1.make hc.1).back (hK x hx)) e1
end
def Hy (ops:Array Oper) (A:List Nat) (i j:Nat):Bool:=(A.getD i 0).testBit j || match ops[j]?,ops[i]? with
 | some oj,some oi=>oj.apart ops oi&&compat ops oj oi
 | _,_=>true
def Qa (ops:Array Oper) (i:Nat):Bool:=match ops[i]? with
 | some o=>o.after.toList.all fun e=> !Region.binds .any e || decide (e.on<i)
 | none=>true
def tY (ops:Array Oper):Bool:=
 let A:=xH ops.toList []
 (List.range ops.size).all fun i=>Qa ops i&&(List.range i).all fun j=>Hy ops A i j
theorem JJ {o:Oper} {acc:List Nat} {j:Nat} (h:(Di o acc).testBit j=true):∃e∈o.after.toList,Region.binds .any e=true∧(e.on=j∨(acc.getD e.on 0).testBit j=true):=by
 have gen:∀(l:List Edge) (m:Nat),(l.foldl (fun m e=>if Region.binds .any e=true then m ||| (2^e.on ||| acc.getD e.on 0)else m) m).testBit j=true→m.testBit j=true∨∃e∈l,Region.binds .any e=true∧(e.on=j∨(acc.getD e.on 0).testBit j=true):=by
  intro l;induction l with
  | nil=>intro m h;exact .inl h
  | cons e l ih=>
   intro m h;rw[List.foldl_cons]at h;rcases ih _ h with h1 | ⟨e',he',h1⟩
   ·split at h1
    ·rename_i hb;rw[Nat.testBit_or,Nat.testBit_or,Nat.testBit_two_pow]at h1;simp only[Bool.or_eq_true,decide_eq_true_eq]at h1;rcases h1 with h1 | h1 | h1
     ·exact .inl h1
     ·exact .inr ⟨e,by simp,hb,.inl h1⟩
     ·exact .inr ⟨e,by simp,hb,.inr h1⟩
    ·exact .inl h1
   ·exact .inr ⟨e',List.mem_cons_of_mem _ he',h1⟩
 rcases gen _ 0 h with h | h
 ·simp at h
 ·exact h
theorem zl {l r:List Nat} {i:Nat} (h:i<l.length):(l++r).getD i 0=l.getD i 0:=by
 rw[List.getD_eq_getElem?_getD,List.getD_eq_getElem?_getD,List.getElem?_append_left h]
def QS (ops:List Oper) (A:List Nat):Prop:=∀i,i<A.length→∃o,ops[i]? =some o∧∀j,(A.getD i 0).testBit j=true→∃e∈o.after.toList,Region.binds .any e=true∧(e.on=j∨(e.on<i∧(A.getD e.on 0).testBit j=true))
theorem GY:∀(r:List Oper) (pre:List Oper) (acc:List Nat),acc.length=pre.length→QS pre acc→QS (pre++r) (xH r acc)
 | [],pre,acc,hl,h=>by simpa [xH]using h
 | o::r,pre,acc,hl,h=>by
  have:=GY r (pre++[o]) (acc++[Di o acc]) (by simp[hl]) (fun i hi=>by
   rw[List.length_append,List.length_singleton]at hi;by_cases h1:i<acc.length
   ·obtain⟨o',ho',hj⟩:=h i h1;refine⟨o',by rw[List.getElem?_append_left (by omega)];exact ho',fun j hb=> ?_⟩;rw[zl h1]at hb;obtain⟨e,he,hbd,h2⟩:=hj j hb;refine⟨e,he,hbd,h2.imp id fun h3=>⟨h3.1,?_⟩⟩;rw[zl (by omega)];exact h3.2
   ·have e1:i=acc.length:=(by omega);subst e1;refine⟨o,by rw[hl];simp,fun j hb=> ?_⟩;have e2:(acc++[Di o acc]).getD acc.length 0=Di o acc:=(by simp[List.getD_eq_getElem?_getD]);rw[e2]at hb;obtain⟨e,he,hbd,h2⟩:=JJ hb;refine⟨e,he,hbd,h2.imp id fun h3=> ?_⟩;rcases Nat.lt_or_ge e.on acc.length with h4 | h4
    ·exact⟨h4,by rw[zl h4];exact h3⟩
    ·rw[List.getD_eq_getElem?_getD,List.getElem?_eq_none h4]at h3;simp at h3)
  simpa [xH]using this
section
variable {P:Program} [Gl P] {N:Nat} {ops:Array Oper} {s s' s1 s2:Sl} {G G' G1 G2:Hp} {E1:En} {w1 w:World} {a:Act} {E:En}
def Closed (ops:Array Oper) (L:Nat→Prop):Prop:=∀i o,L i→ops[i]? =some o→∀e∈o.after.toList,Region.binds .any e=true→L e.on
theorem yc {L:Nat→Prop} (hL:Closed ops L):∀(i:Nat) {o:Oper},ops[i]? =some o→(∀e∈o.after.toList,Region.binds .any e=true→L e.on)→∀j,((xH ops.toList []).getD i 0).testBit j=true→L j:=by
 have hA:=GY ops.toList [] [] rfl (fun i hi=>by simp at hi);rw[List.nil_append]at hA;intro i;induction i using Nat.strongRecOn with
 | _ i ih=>
  intro o hi hd j hb;rcases Nat.lt_or_ge i (xH ops.toList []).length with h1 | h1
  ·obtain⟨o',ho',hj⟩:=hA i h1;have:o'=o:=by
    have h2:ops[i]? =some o':=(by simpa using ho');rw[hi]at h2;injection h2 with h2;exact h2.symm
   subst this;obtain⟨e,he,hbd,h2⟩:=hj j hb;rcases h2 with rfl | ⟨h2,h3⟩
   ·exact hd e he hbd
   ·have hLe:=hd e he hbd;have hlt:e.on<(xH ops.toList []).length:=(by omega);obtain⟨oe,hoe,_⟩:=hA e.on hlt;have hoe':ops[e.on]? =some oe:=(by simpa using hoe);exact ih e.on h2 hoe' (fun e' he' hb'=>hL e.on oe hLe hoe' e' he' hb') j h3
  ·rw[List.getD_eq_getElem?_getD,List.getElem?_eq_none h1]at hb;simp at hb
theorem VR.root {x:AV} {u:Value} {id:Nat} (h:VR P E w x u) (hr:mJ x=some id):E.K id:=by
 induction h with
 | tree h=>cases h<;>cases hr
 | ptr hK _ _=>injection hr with hr;subst hr;exact hK
 | row hK _ _ _=>injection hr with hr;subst hr;exact hK
 | ea _ _ _ ih=>exact ih hr
 | mp hK _ _=>injection hr with hr;subst hr;exact hK
 | _=>cases hr
theorem RelAt.roots (h:RelAt P N E1 w1 s G a w E) (x:Operand) (id:Nat) (hr:mJ (evX s x)=some id):∃o,G id=some o:=
 (h.rel.K id).1 ((jH h.slots x).root hr)
theorem front {i:Nat} {oi:Oper} (hi:ops[i]? =some oi):∀(pre:List Nat) {post:List Nat} {s:Sl} {G:Hp},Fin G→(kG ops oi=0∨∀x∈oi.op.operands,∀id,mJ (evX s x)=some id→∃o,G id=some o)→
  (∀j∈pre,∃oj,ops[j]? =some oj∧oj.apart ops oi=true∧compat ops oj oi=true)→Runs P N ops (pre++i::post) s G s' G'→Runs P N ops (i::(pre++post)) s G s' G'
 | [],post,s,G,_,_,_,h=>h
 | j::pre,post,s,G,hf,hK,hp,h=>by
  rw[List.cons_append]at h;cases h with
  | @cons _ _ _ s1 _ _ G1 _ h1 hr=>
   obtain⟨oj,hj,hap,hc⟩:=hp j (by simp);obtain⟨hd1,u,hs1,e1⟩:=(dG hj).1 h1;have hK1:kG ops oi=0∨∀x∈oi.op.operands,∀id,mJ (evX s1 x)=some id→∃o,G1 id=some o:=by
    by_cases c0:kG ops oi=0
    ·exact .inl c0
    ·refine .inr fun x hx id hr'=> ?_;subst hs1;have sm:Same ops oi s (s.put oj.dst u):=eP (Oper.apart_spec hap).1;rw[sm.1 x hx]at hr';obtain⟨o,ho⟩:=hK.resolve_left c0 x hx id hr';have cj:kG ops oj≤2:=by
      simp only[compat,Bool.or_eq_true,Bool.and_eq_true,beq_iff_eq]at hc;omega
     rcases e1.grows cj id o ho with h2 | ⟨_,_,_,h2⟩
     ·exact⟨_,h2⟩
     ·exact⟨_,h2⟩
   have ih:=front hi pre (e1.fin hf) hK1 (fun j' hj'=>hp j' (by simp[hj'])) hr;cases ih with
   | cons h2 hr2=>
    obtain⟨s1',G1',x1,x2⟩:=swap hi hj hap hc hf hK h1 h2;exact .cons x1 (.cons x2 hr2)
theorem uX {L:Array Bool} {i j:Nat} (d:Bool):(L.setIfInBounds i true).getD j d=if i=j∧j<L.size then true else L.getD j d:=by
 simp only[Array.getD_eq_getD_getElem?,Array.getElem?_setIfInBounds];by_cases h:i=j
 ·subst h;by_cases h2:i<L.size
  ·simp[h2]
  ·simp[h2]
 ·simp[h]
theorem Uk {r:Option Nat} {n:Nat} {Q:Exit→Act→World→Prop} (hok:tY ops=true) (hQ:∀a' w' E',RelAt P N E1 w1 s' G' a' w' E'→Q .normal a' w'):∀(fuel:Nat) (L:Array Bool) {s:Sl} {G:Hp} {a:Act} {w:World} {E:En},L.size=ops.size→Closed ops (fun i=>L.getD i false=true)→
  fuel=((List.range ops.size).filter fun i=> !L.getD i true).length→Runs P N ops ((List.range ops.size).filter fun i=> !L.getD i true) s G s' G'→Fin G→RelAt P N E1 w1 s G a w E→wpAnyIn (FW r) n P .any ops Q fuel L a w:=by
 simp only[tY,List.all_eq_true,Bool.and_eq_true,List.mem_range]at hok;intro fuel;induction fuel with
 | zero=>
  intro L s G a w E hsz hcl hl hr hf h;have hnil:=List.eq_nil_of_length_eq_zero hl.symm;rw[hnil]at hr;refine⟨?_,?_⟩
  ·rw[List.eq_nil_iff_forall_not_mem];intro j hj;obtain⟨h1,o,ho,_⟩:=mem_ready.1 hj;have:j∈(List.range ops.size).filter fun i=> !L.getD i true:=List.mem_filter.2 ⟨List.mem_range.2 (Array.getElem?_eq_some_iff.1 ho).1,by simp[h1]⟩;rw[hnil]at this;simp at this
  ·cases hr;exact hQ _ _ _ h
 | succ fuel ih=>
  intro L s G a w E hsz hcl hl hr hf h;refine⟨fun hnr=> ?_,fun i hir=> ?_⟩
  ·exfalso;cases hR:(List.range ops.size).filter fun i=> !L.getD i true with
   | nil=>rw[hR]at hl;simp at hl
   | cons i R=>
    have hi:i∈(List.range ops.size).filter fun i=> !L.getD i true:=(by rw[hR];simp);obtain⟨hi1,hi2⟩:=List.mem_filter.1 hi;rw[List.mem_range]at hi1;have:i∈Region.ready .any ops L:=by
     refine mem_ready.2 ⟨by simpa using hi2,_,Array.getElem?_eq_getElem hi1,fun e he hb=> ?_⟩;have hbk:=(hok i hi1).1;simp only[Qa,Array.getElem?_eq_getElem hi1,List.all_eq_true,Bool.or_eq_true,Bool.not_eq_true',decide_eq_true_eq]at hbk;have hlt:=(hbk e (by simpa using he)).resolve_left (by simp[hb]);have hle:L.getD e.on true=true:=by
      cases hc:L.getD e.on true with
      | true=>rfl
      | false=>
       exfalso;have hmem:e.on∈(List.range ops.size).filter fun i=> !L.getD i true:=List.mem_filter.2 ⟨List.mem_range.2 (by omega),by simp[hc]⟩;have hsort:((List.range ops.size).filter fun i=> !L.getD i true).Pairwise (· < ·):=List.Pairwise.filter _ List.pairwise_lt_range;rw[hR]at hmem hsort;rcases List.mem_cons.1 hmem with h1 | h1
       ·omega
       ·have:=(List.pairwise_cons.1 hsort).1 _ h1;omega
     have hlt2:e.on<L.size:=(by omega);simpa [Array.getD_eq_getD_getElem?,hlt2]using hle
    rw[hnr]at this;simp at this
  ·obtain⟨hi1,oi,hi,hpre⟩:=mem_ready.1 hir;have hin:i<ops.size:=(Array.getElem?_eq_some_iff.1 hi).1;have hmem:i∈(List.range ops.size).filter fun i=> !L.getD i true:=List.mem_filter.2 ⟨List.mem_range.2 hin,by simp[hi1]⟩;obtain⟨pre,post,hR⟩:=List.append_of_mem hmem;have hsort:((List.range ops.size).filter fun i=> !L.getD i true).Pairwise (· < ·):=List.Pairwise.filter _ List.pairwise_lt_range;have hprelt:∀j∈pre,j<i:=fun j hj=>by
    rw[hR]at hsort;exact(List.pairwise_append.1 hsort).2.2 j hj i (by simp)
   rw[hR]at hr;have hfr:=front hi pre hf (.inr fun x _ id hr'=>h.roots x id hr') (fun j hj=>by
    have hjm:j∈(List.range ops.size).filter fun i=> !L.getD i true:=(by rw[hR];simp[hj]);obtain⟨hj1,hj2⟩:=List.mem_filter.1 hjm;rw[List.mem_range]at hj1;refine⟨_,Array.getElem?_eq_getElem hj1,?_⟩;have hp:=(hok i hin).2 j (by simpa using hprelt j hj);simp only[Hy,Bool.or_eq_true,hi,Array.getElem?_eq_getElem hj1,Bool.and_eq_true]at hp;rcases hp with hp | hp
    ·exfalso;have:=yc hcl i hi (fun e he hb=>hpre e (by simpa using he) hb) j hp;have hlt2:j<L.size:=(by omega);simp[Array.getD_eq_getD_getElem?,hlt2]at this hj2;rw[this]at hj2;cases hj2
    ·exact hp) hr
   cases hfr with
   | @cons _ _ _ s1 _ _ G1 _ h1 hr2=>
    have hf1:Fin G1:=by
     obtain⟨_,u,_,e1⟩:=(dG hi).1 h1;exact e1.fin hf
    refine lK h1 h fun a' w' E' h'=> ?_;have hpp:pre++post=(List.range ops.size).filter fun j=> !(L.setIfInBounds i true).getD j true:=by
     have e1:((List.range ops.size).filter fun j=> !(L.setIfInBounds i true).getD j true)=((List.range ops.size).filter fun i=> !L.getD i true).filter fun j=>decide (j≠i):=by
      rw[List.filter_filter];refine List.filter_congr fun j hj=> ?_;rw[List.mem_range]at hj;rw[uX];by_cases hij:i=j
      ·subst hij;have:i<L.size:=(by omega);simp[this]
      ·have hji:¬j=i:=fun e=>hij e.symm;simp[hij,hji]
     rw[e1,hR,List.filter_append,List.filter_cons];have q1:pre.filter (fun j=>decide (j≠i))=pre:=List.filter_eq_self.2 fun j hj=>(by have:=hprelt j hj;simp;omega);have q2:post.filter (fun j=>decide (j≠i))=post:=List.filter_eq_self.2 fun j hj=>by
      rw[hR]at hsort;have:=(List.pairwise_cons.1 (List.pairwise_append.1 hsort).2.1).1 j hj;simp;omega
     rw[q1,q2,if_neg (by simp)]
    refine ih _ (by simp[hsz]) (fun j o hj ho e he hb=> ?_) ?_ (by rw[←hpp];exact hr2) hf1 h'
    ·simp only[uX]at hj⊢;split
     ·rfl
     ·split at hj
      ·rename_i h2;obtain⟨rfl,_⟩:=h2;rw[hi]at ho;injection ho with ho;subst ho;exact hpre e (by simpa using he) hb
      ·exact hcl j o hj ho e he hb
    ·rw[←hpp];rw[hR]at hl;simp at hl⊢;omega
theorem Oz {r:Option Nat} {n:Nat} {Q:Exit→Act→World→Prop} {id:Nat} (hm:P.follows .mixedOrders=true) (hok:tY ops=true) (hr:Runs P N ops (List.range ops.size) s G s' G') (hf:Fin G) (h:RelAt P N E1 w1 s G a w E) (hQ:∀a' w' E',RelAt P N E1 w1 s' G' a' w' E'→Q .normal a' w'):(Code.region id ops true).wpIn (FW r) n P Q a w:=by
 have hb:Below w.heap.size w {w with drawn:=w.drawn+1} :=⟨rfl,rfl,rfl,Nat.le_refl _,fun _ _=>rfl⟩;obtain⟨hR,he⟩:=h.rel.below hb;have h':RelAt P N E1 w1 s G a {w with drawn:=w.drawn+1} E:=⟨fun t=>(h.slots t).ext he (En.Le.refl _ _),hR,h.ext.trans he (fun b hb hW=>h.le.W b hb hW),h.le,h.defers.ext he (fun _ _ h=>h),h.size⟩;have hall:((List.range ops.size).filter fun i=> !(Array.replicate ops.size false).getD i true)=List.range ops.size:=List.filter_eq_self.2 fun i hi=>by
  rw[List.mem_range]at hi;simp[Array.getD_eq_getD_getElem?,hi]
 refine wpIn_region_any hm (Uk hok hQ ops.size _ (by simp) (fun i o hi=> ?_) (by rw[hall];simp) (by rw[hall];exact hr) hf h');simp[Array.getD_eq_getD_getElem?,Array.getElem?_replicate]at hi;split at hi<;>simp at hi
def Dc (o:Oper) (p:Tmp):Bool:=match o.op,o.guard with
 | .store _ (.tmp q) _,none=>q==p
 | _,_=>false
def Sr (qs:List Tmp) (o:Oper):Bool:=match o.guard with
 | some _=>false
 | none=>match o.op with
  | .load _ (.tmp q)=>qs.contains q
  | .buildSlice _ _ _=>true
  | .call c=>match c.callee with
   | .value (.func _)=>c.args.size==0
   | _=>false
  | _=>false
def UC (ops:Array Oper) (p:Tmp):Bool:=ops.toList.all fun o=>o.dst !=some p
def Ac (ops:Array Oper) (p:Option Tmp) (qs:List Tmp) (i j:Nat):Bool:=match p,ops[j]?,ops[i]? with
 | some p,some oj,some oi=>oj.apart ops oi&&Dc oi p&&Sr qs oj
 | _,_,_=>false
def Hr (o:Oper):Bool:=match o.op,o.guard with
 | .alloc _,none=>true
 | _,_=>false
def JA (P:Program) [Gl P] (o:Oper):Bool:=match o.op with
 | .call c=>match c.callee with
  | .value (.func f)=> !Gl.inl P f
  | _=>false
 | _=>false
def CU (P:Program) [Gl P] (ops:Array Oper) (i j:Nat):Bool:=match ops[j]?,ops[i]? with
 | some oj,some oi=>oj.apart ops oi&&Hr oi&&JA P oj
 | _,_=>false
def oJ (o:Oper):Bool:=match o.op,o.guard with
 | .alloc _,none=>true
 | .buildSlice _ _ _,none=>true
 | _,_=>false
def Gi (ops:Array Oper) (i j:Nat):Bool:=match ops[j]?,ops[i]? with
 | some oj,some oi=>oj.apart ops oi&&oJ oi&&oJ oj
 | _,_=>false
def U0 (ops:Array Oper) (p:Option Tmp):Bool:=match p with
 | some p=>UC ops p
 | none=>true
def Tv (o:Oper):Bool:=match o.op,o.guard with
 | .call c,none=>(match c.callee with
  | .builtin .append=>true
  | _=>false)
 | _,_=>false
def LX (o:Oper) (p:Tmp):Bool:=match o.op with
 | .load _ (.tmp q)=>q==p
 | _=>false
def ER (ops:Array Oper) (p:Option Tmp) (i j:Nat):Bool:=match p,ops[j]?,ops[i]? with
 | some p,some oj,some oi=>oj.apart ops oi&&Tv oi&&LX oj p
 | _,_,_=>false
def Lh (P:Program) [Gl P] (o:Oper):Bool:=match o.op with
 | .slice t _ lo hi none=> !(Gl.shr P t&&lo.isNone)&& !Fj P t lo hi
 | _=>false
def Un:Operand→Bool
 | .const _=>true
 | _=>false
def UL (P:Program) [Gl P] (o:Oper):Bool:=match o.op with
 | .call c=>match c.callee with
  | .value (.func f)=> !Gl.inl P f&&c.args.toList.all Un
  | _=>false
 | _=>false
def J4 (P:Program) [Gl P] (ops:Array Oper) (i j:Nat):Bool:=match ops[j]?,ops[i]? with
 | some oj,some oi=>oj.apart ops oi&&((Lh P oi&&kG ops oj==1) || (Lh P oj&&(kG ops oi==1 || UL P oi)))
 | _,_=>false
def vT (P:Program) [Gl P] (ops:Array Oper) (p:Option Tmp) (qs:List Tmp):Bool:=
 let A:=xH ops.toList []
 !uf ops&&U0 ops p&&qs.all (UC ops)&&(List.range ops.size).all fun i=>Qa ops i&&(List.range i).all fun j=>Hy ops A i j || (Ac ops p qs i j || (CU P ops i j || (Gi ops i j || (ER ops p i j || J4 P ops i j))))
def wX (s:Sl) (p:Option Tmp) (qs:List Tmp):Prop:=∀p',p=some p'→∃id off,s p'=.ptr id off∧∀q∈qs,mJ (s q)≠some id
theorem wX.put {p:Option Tmp} {qs:List Tmp} (h:wX s p qs) {o:Oper} {v:AV} (hp:∀p',p=some p'→o.dst≠some p') (hq:∀q∈qs,o.dst≠some q):wX (s.put o.dst v) p qs:=by
 intro p' hp';obtain⟨id,off,h1,h2⟩:=h p' hp';have e:∀t,o.dst≠some t→(s.put o.dst v) t=s t:=fun t ht=>by
  cases hd:o.dst with
  | none=>rfl
  | some d=>exact Sl.upd_ne _ _ fun e=>ht (by rw[hd,e])
 exact⟨id,off,(e p' (hp p' hp')).trans h1,fun q hqq=>by rw[e q (hq q hqq)];exact h2 q hqq⟩
theorem Df {p:Option Tmp} (h:U0 ops p=true):∀p',p=some p'→UC ops p'=true:=fun p' hp=>by subst hp;exact h
theorem qL {p:Tmp} (h:UC ops p=true) {i:Nat} {o:Oper} (hi:ops[i]? =some o):o.dst≠some p:=by
 have:=List.all_eq_true.1 h o (Array.mem_toList_iff.2 (Array.mem_of_getElem? hi));simpa using this
theorem Hp.qj (G:Hp) {i j:Nat} (a b:AObj) (h:i≠j):(G.upd i a).upd j b=(G.upd j b).upd i a:=by
 funext k;simp only[Hp.upd];by_cases h1:k=i
 ·subst h1;rw[if_neg h,if_pos rfl,if_pos rfl]
 ·rw[if_neg h1,if_neg h1]
theorem pJ {id:Nat} {t0:TypeId} {cs cs':List AV} :∀(as:List AV) {G:Hp},G id=some (.var t0 cs)→
  (∀ts G',bY P G as=some (ts,G')→G' id=some (.var t0 cs)∧bY P (G.upd id (.var t0 cs')) as=some (ts,G'.upd id (.var t0 cs')))∧(bY P G as=none→bY P (G.upd id (.var t0 cs')) as=none)
 | [],G,hG=>⟨fun ts G' h=>by simp[bY]at h⊢;obtain⟨rfl,rfl⟩:=h;exact⟨hG,rfl,rfl⟩,fun h=>by simp[bY]at h⟩
 | a::as,G,hG=>by
  have t1:bJ P (G.upd id (.var t0 cs')) a=bJ P G a:=by
   (cases a<;>try rfl);rename_i r n;simp only[bJ];by_cases hr:r=id
   ·subst hr;rw[Hp.bW,hG]
   ·rw[Hp.upd_ne _ _ hr]
  have t2:bT (G.upd id (.var t0 cs')) a=(bT G a).upd id (.var t0 cs')∧(bT G a) id=some (.var t0 cs):=by
   (cases a<;>try exact⟨rfl,hG⟩);rename_i r n;simp only[bT];by_cases hr:r=id
   ·subst hr;rw[Hp.bW,hG];exact⟨rfl,hG⟩
   ·rw[Hp.upd_ne _ _ hr];have hri:id≠r:=fun e=>hr e.symm;cases hGr:G r with
    | none=>exact⟨rfl,hG⟩
    | some o=>
     (cases o<;>try exact⟨rfl,hG⟩);rename_i e c;cases c with
     | nil=>exact⟨rfl,hG⟩
     | cons c cs=>exact⟨Hp.qj _ _ _ hri,by show G.upd r _ id=_;rw[Hp.upd_ne _ _ hri];exact hG⟩
  obtain⟨ih1,ih2⟩:=pJ (cs':=cs') as t2.2;simp only[bY,t1,t2.1];cases h1:bJ P G a with
  | none=>exact⟨fun ts G' h=>by simp at h,fun _=>rfl⟩
  | some x=>
   cases h2:bY P (bT G a) as with
   | none=>rw[ih2 h2];exact⟨fun ts G' h=>by simp at h,fun _=>rfl⟩
   | some q=>
    obtain⟨ts1,G1⟩:=q;obtain⟨q1,q2⟩:=ih1 ts1 G1 h2;rw[q2];refine⟨fun ts G' h=> ?_,fun h=>by simp at h⟩;simp only[Option.some.injEq,Prod.mk.injEq]at h;obtain⟨rfl,rfl⟩:=h;exact⟨q1,rfl⟩
theorem Oe {oi:Oper} {p:Tmp} (hl:Dc oi p=true) {id off:Nat} (hp:s p=.ptr id off) {v:AV} (h:Eff P ops oi s G v G'):∃t0 cs cs',G id=some (.var t0 cs)∧G'=G.upd id (.var t0 cs')∧∀G3,Fin G3→G3 id=some (.var t0 cs)→Eff P ops oi s G3 v (G3.upd id (.var t0 cs')):=by
 unfold Dc at hl;split at hl
 ·rename_i t q x hop hgd;simp only[beq_iff_eq]at hl;subst hl;cases h with
  | off hw=>simp[wantA,hgd]at hw
  | pure hw hm hp'=>simp[mustPure,hop]at hm
  | call hw hc=>simp[callA,hop]at hc
  | keep hw hc=>simp[callA,hop]at hc
  | inl hw hc=>simp[callA,hop]at hc
  | @op _ _ nx nx' hw hm hn he=>
   have hev:∀G3 nx3,evC P s G3 nx3 oi=(jA P G3 t (s q) (evX s x)).map fun G'=>(.any,G',nx3):=by
    intro G3 nx3;unfold evC;rw[hop];rfl
   rw[hev]at he;obtain⟨G1,h1,h2⟩:=Option.map_eq_some_iff.1 he;simp only[Prod.mk.injEq]at h2;obtain⟨rfl,rfl,rfl⟩:=h2;unfold jA at h1;rw[hp]at h1;split at h1
   ·cases h1
   ·rename_i b k hty;split at h1
    ·rename_i hk;simp only at h1;split at h1
     ·rename_i t0 cs hG;split at h1
      ·rename_i hle;injection h1 with h1;refine⟨t0,cs,_,hG,h1.symm,fun G3 ⟨n,hf⟩ hG3=> .op (nx:=n) (nx':=n) hw hm (hf n (Nat.le_refl _)) ?_⟩;rw[hev];unfold jA;rw[hp,hty];simp only[if_pos hk,hG3,if_pos hle,Option.map_some]
      ·cases h1
     ·cases h1
    ·cases h1
 ·cases hl
theorem uF {nx id:Nat} {J:Js} {o:AObj} (h:¬(nx≤id∧id-nx<J.length)):addJ (G.upd id o) nx J=(addJ G nx J).upd id o:=by
 funext i;simp only[addJ,Hp.upd];by_cases hi:i=id
 ·subst hi;rw[if_neg h,if_pos rfl,if_pos rfl]
 ·rw[if_neg hi,if_neg hi]
theorem Sm {oj:Oper} {qs:List Tmp} (hr:uf ops=false) (hm:Sr qs oj=true) {id:Nat} {t0:TypeId} {cs cs':List AV} (hG:∃o,G id=some o) (hq:∀q∈qs,mJ (s q)≠some id) (hf:Fin G) {u:AV} (h:Eff P ops oj s G u G1) (h1:G1 id=some (.var t0 cs)):
  G id=some (.var t0 cs)∧Eff P ops oj s (G.upd id (.var t0 cs')) u (G1.upd id (.var t0 cs')):=by
 have mp:mustPure ops oj=false:=(by simp[mustPure,hr]);unfold Sr at hm;split at hm
 ·cases hm
 rename_i hgd;have hfu:∀ {G:Hp} {o:AObj},Fin G→Fin (G.upd id o):=fun⟨n,hf⟩=>⟨n+id+1,fun i hi=>by rw[Hp.upd_ne _ _ (by omega)];exact hf i (by omega)⟩;split at hm
 ·rename_i t q hop;have hc:kG ops oj=1:=(by rw[iy mp];simp[clsOf,hop]);obtain⟨rfl,h2⟩:=h.read hc;refine⟨h1,h2 _ (hfu hf) fun x hx i o hri hi=> ?_⟩;have hx:x=.tmp q:=(by simpa [Op.operands,hop]using hx);subst hx;have hne:i≠id:=fun e=>hq q (List.contains_iff_mem.1 (by simpa using hm)) (by rw[←e];exact hri);rw[Hp.upd_ne _ _ hne,hi];exact .inl rfl
 ·rename_i t n ps hop;cases h with
  | off hw=>simp[wantA,hgd]at hw
  | pure hw hm hp'=>rw[mp]at hm;cases hm
  | call hw hc=>simp[callA,hop]at hc
  | keep hw hc=>simp[callA,hop]at hc
  | inl hw hc=>simp[callA,hop]at hc
  | @op _ _ nx nx' hw hm hn he=>
   have hne:id≠nx:=fun e=>(by obtain⟨o,hG⟩:=hG;rw[e,hn]at hG;cases hG);have hev:∀G3,evC P s G3 nx oj=iq P s G3 nx (.buildSlice t n ps):=fun G3=>(by unfold evC;rw[hop]);rw[hev]at he;have hn':(G.upd id (.var t0 cs')) nx=none:=(by rw[Hp.upd_ne _ _ (Ne.symm hne)];exact hn);have hG1:∀ {G2:Hp} {o:AObj},G1=G2.upd nx o→G2 id=some (.var t0 cs):=fun e=>(by rw[e,Hp.upd_ne _ _ hne]at h1;exact h1);simp only[iq]at he;split at he
   ·rename_i e k by' z hel;split at he
    ·rename_i hcond;split at he
     ·rename_i ts G2 htr;simp only[Option.some.injEq,Prod.mk.injEq]at he;obtain⟨rfl,rfl,rfl⟩:=he;have h2:=hG1 rfl;have hGid:G id=some (.var t0 cs):=by
       obtain⟨o,hG⟩:=hG;rcases Grows.trees htr id o hG with h3 | ⟨e',c',rfl,h3⟩
       ·rw[h3]at h2;rw[hG,h2]
       ·rw[h3]at h2;cases h2
      refine⟨hGid,.op (nx:=nx) (nx':=nx+1) hw mp hn' ?_⟩;rw[hev];simp only[iq,hel,if_pos hcond,((pJ _ hGid).1 ts G2 htr).2];rw[Hp.qj _ _ _ hne]
     ·rename_i htr;split at he
      ·rename_i hfn;simp only[Option.some.injEq,Prod.mk.injEq]at he;obtain⟨rfl,rfl,rfl⟩:=he;have hGid:=hG1 rfl;refine⟨hGid,.op (nx:=nx) (nx':=nx+1) hw mp hn' ?_⟩;rw[hev];simp only[iq,hel,if_pos hcond,(pJ (cs':=cs') _ hGid).2 htr,if_pos hfn];rw[Hp.qj _ _ _ hne]
      ·cases he
    ·cases he
   ·cases he
 ·rename_i c hop;split at hm
  ·rename_i f hcal;have hargs:c.args.toList=[]:=by
    have:c.args.size=0:=(by simpa using hm);exact List.eq_nil_of_length_eq_zero (by simpa using this)
   have has:∀ {f' as},callA s oj=some (f',as)→as=[]:=fun hc=>by
    simp only[callA,hop,hcal,hargs,List.map_nil,Option.some.injEq,Prod.mk.injEq]at hc;exact hc.2.symm
   cases h with
   | off hw=>simp[wantA,hgd]at hw
   | pure hw hm hp'=>rw[mp]at hm;cases hm
   | op hw hm hn he=>
    unfold evC at he;rw[hop]at he;simp only[hcal]at he;cases he
   | @call G' f as ts r J nx hw hc ha hn hk=>
    have:=has hc;subst this;simp only[argsOf,Option.some.injEq,Prod.mk.injEq]at ha;obtain⟨rfl,rfl⟩:=ha;have hni:¬(nx≤id∧id-nx<J.length):=fun hj=>(by obtain⟨o,hG⟩:=hG;rw[hn id hj]at hG;cases hG);have hGid:G id=some (.var t0 cs):=by
     have:addJ G nx J id=G id:=(by simp only[addJ];rw[if_neg hni]);rw[←this];exact h1
    refine⟨hGid,?_⟩;rw[←uF hni];exact .call hw hc rfl (fun j hj=>by
     have hji:j≠id:=fun e=>hni (by rw[←e];exact hj);rw[Hp.upd_ne _ _ hji];exact hn j hj) hk
   | @keep f as ts r J nx hw hc ha hn hk hkeep=>
    have:=has hc;subst this;simp only[seesA,Option.some.injEq]at ha;subst ha;have hni:¬(nx≤id∧id-nx<J.length):=fun hj=>(by obtain⟨o,hG⟩:=hG;rw[hn id hj]at hG;cases hG);have hGid:G id=some (.var t0 cs):=by
     have:addJ G nx J id=G id:=(by simp only[addJ];rw[if_neg hni]);rw[←this];exact h1
    refine⟨hGid,?_⟩;rw[←uF hni];exact .keep hw hc rfl (fun j hj=>by
     have hji:j≠id:=fun e=>hni (by rw[←e];exact hj);rw[Hp.upd_ne _ _ hji];exact hn j hj) hk hkeep
   | inl hw hc hne=>exact absurd (has hc) hne.1
  ·cases hm
 ·cases hm
theorem U7 {i j:Nat} {oi oj:Oper} {p:Tmp} {qs:List Tmp} (hr:uf ops=false) (hi:ops[i]? =some oi) (hj:ops[j]? =some oj) (hap:oj.apart ops oi=true) (hl:Dc oi p=true) (hm:Sr qs oj=true) (hS:wX s (some p) qs) (hf:Fin G) (hK:∀x∈oi.op.operands,∀id,mJ (evX s x)=some id→∃o,G id=some o)
  (h1:Step P N ops j s G s1 G1) (h2:Step P N ops i s1 G1 s2 G2):∃s1' G1',Step P N ops i s G s1' G1'∧Step P N ops j s1' G1' s2 G2:=by
 obtain⟨a1,a2,a3⟩:=Oper.apart_spec hap;obtain⟨hd1,u,rfl,e1⟩:=(dG hj).1 h1;obtain⟨hd2,v,rfl,e2⟩:=(dG hi).1 h2;have si:Same ops oi s (s.put oj.dst u):=eP a1;have si':Same ops oi (s.put oj.dst u) s:=⟨fun x hx=>(si.1 x hx).symm,si.2.symm⟩;have sj:Same ops oj s (s.put oi.dst v):=eP a3;have e2':=e2.congr si';obtain⟨id,off,hp,hq⟩:=hS p rfl;obtain⟨t0,cs,cs',g1,g2,g3⟩:=Oe hl hp e2';have hpo:(.tmp p:Operand)∈oi.op.operands:=by
  unfold Dc at hl;split at hl
  ·rename_i t q x hop hgd;simp only[beq_iff_eq]at hl;subst hl;simp[Op.operands,hop]
  ·cases hl
 obtain⟨hGid,x2⟩:=Sm (cs':=cs') hr hm (hK _ hpo id (by show mJ (s p)=_;rw[hp];rfl)) hq hf e1 g1;subst g2;exact⟨_,_,(dG hi).2 ⟨hd2,v,rfl,g3 G hf hGid⟩,(dG hj).2 ⟨hd1,u,put_comm a2,x2.congr sj⟩⟩
theorem pX {a:Nat} {o:AObj} :∀(as:List AV) {G:Hp} {ts:List AV} {G':Hp},G a=none→bY P G as=some (ts,G')→G' a=none∧bY P (G.upd a o) as=some (ts,G'.upd a o)
 | [],G,ts,G',hG,h=>by simp[bY]at h⊢;obtain⟨rfl,rfl⟩:=h;exact⟨hG,rfl,rfl⟩
 | x::as,G,ts,G',hG,h=>by
  simp only[bY]at h;cases h1:bJ P G x with
  | none=>rw[h1]at h;cases h
  | some y=>
   rw[h1]at h;have t1:bJ P (G.upd a o) x=some y:=by
    (cases x<;>try exact h1);rename_i r n;by_cases hr:r=a
    ·subst hr;simp only[bJ,hG]at h1;cases h1
    ·rw[←h1];simp only[bJ,Hp.upd_ne _ _ hr]
   have t2:bT (G.upd a o) x=(bT G x).upd a o∧(bT G x) a=none:=by
    (cases x<;>try exact⟨rfl,hG⟩);rename_i r n;by_cases hr:r=a
    ·subst hr;simp only[bJ,hG]at h1;cases h1
    ·simp only[bT,Hp.upd_ne _ _ hr];have hri:a≠r:=fun e=>hr e.symm;cases hGr:G r with
     | none=>exact⟨rfl,hG⟩
     | some o'=>
      (cases o'<;>try exact⟨rfl,hG⟩);rename_i e c;cases c with
      | nil=>exact⟨rfl,hG⟩
      | cons c cs=>exact⟨Hp.qj _ _ _ hri,by show G.upd r _ a=_;rw[Hp.upd_ne _ _ hri];exact hG⟩
   cases h2:bY P (bT G x) as with
   | none=>rw[h2]at h;cases h
   | some q=>
    obtain⟨ts1,G1⟩:=q;rw[h2]at h;simp only[Option.some.injEq,Prod.mk.injEq]at h;obtain⟨rfl,rfl⟩:=h;obtain⟨q1,q2⟩:=pX (o:=o) as t2.2 h2;exact⟨q1,by simp only[bY,t1,t2.1,q2]⟩
theorem rY {a:Nat} {o:AObj} :∀(as:List AV) {G:Hp} {ts:List AV} {G':Hp},G a=none→argsOf P G as=some (ts,G')→G' a=none∧argsOf P (G.upd a o) as=some (ts,G'.upd a o)
 | [],G,ts,G',hG,h=>by simp[argsOf]at h⊢;obtain⟨rfl,rfl⟩:=h;exact⟨hG,rfl,rfl⟩
 | x::as,G,ts,G',hG,h=>by
  have one:∀ {x:AV},(∀cs,x≠ .agg cs)→argsOf P G (x::as)=some (ts,G')→G' a=none∧argsOf P (G.upd a o) (x::as)=some (ts,G'.upd a o):=by
   intro x hx h;have e:∀G:Hp,argsOf P G (x::as)=match bJ P G x,argsOf P (bT G x) as with
    | some t,some (rs,G2)=>some (t::rs,G2)
    | _,_=>none:=fun G=>by
     cases x<;>first | rfl | exact absurd rfl (hx _)
   rw[e]at h⊢;cases h1:bJ P G x with
   | none=>rw[h1]at h;cases h
   | some y=>
    rw[h1]at h;obtain⟨q0,q1⟩:=pX (P:=P) (o:=o) [x] (ts:=[y]) (G':=bT G x) hG (by simp only[bY,h1]);have t1:bJ P (G.upd a o) x=some y∧bT (G.upd a o) x=(bT G x).upd a o:=by
     simp only[bY]at q1;cases h3:bJ P (G.upd a o) x with
     | none=>rw[h3]at q1;cases q1
     | some z=>
      rw[h3]at q1;simp only[Option.some.injEq,Prod.mk.injEq,List.cons.injEq,and_true]at q1;exact⟨by rw[q1.1],q1.2⟩
    cases h2:argsOf P (bT G x) as with
    | none=>rw[h2]at h;cases h
    | some q=>
     obtain⟨ts1,G1⟩:=q;rw[h2]at h;simp only[Option.some.injEq,Prod.mk.injEq]at h;obtain⟨rfl,rfl⟩:=h;obtain⟨r1,r2⟩:=rY (o:=o) as q0 h2;exact⟨r1,by rw[t1.1,t1.2,r2]⟩
  cases x with
  | agg cs=>
   simp only[argsOf]at h⊢;cases h1:bY P G cs with
   | none=>rw[h1]at h;cases h
   | some q=>
    obtain⟨t1,G1⟩:=q;rw[h1]at h;obtain⟨q0,q1⟩:=pX (o:=o) cs hG h1;rw[q1];simp only at h⊢;cases h2:argsOf P G1 as with
    | none=>rw[h2]at h;cases h
    | some q=>
     obtain⟨ts1,G2⟩:=q;rw[h2]at h;simp only[Option.some.injEq,Prod.mk.injEq]at h;obtain⟨rfl,rfl⟩:=h;obtain⟨r1,r2⟩:=rY (o:=o) as q0 h2;exact⟨r1,by rw[r2]⟩
  | _=>exact one (fun cs=>by simp) h
theorem Dy {a:Nat} {o:AObj} {x y:AV} (hG:G a=none) (h:lookA P G x=some y):lookA P (G.upd a o) x=some y:=by
 cases x<;>try exact h
 ·rename_i id off;by_cases hr:id=a
  ·subst hr;simp only[lookA,hG]at h;cases h
  ·simp only[lookA,Hp.upd_ne _ _ hr]at h⊢;exact h
 ·rename_i r n;by_cases hr:r=a
  ·subst hr;simp only[lookA,bJ,hG]at h;cases h
  ·simp only[lookA,bJ,Hp.upd_ne _ _ hr]at h⊢;exact h
theorem rF {a:Nat} {o:AObj} (hG:G a=none):∀ {as ts:List AV},iH P G as=some ts→iH P (G.upd a o) as=some ts
 | [],ts,h=>h
 | x::as,ts,h=>by
  simp only[iH]at h⊢;cases h1:lookA P G x with
  | none=>rw[h1]at h;cases h
  | some y=>
   cases h2:iH P G as with
   | none=>rw[h1,h2]at h;cases h
   | some q=>rw[h1,h2]at h;rw[Dy hG h1,rF hG h2];exact h
theorem BN {a:Nat} {o:AObj} (hG:G a=none):∀ {as ts:List AV},seesA P G as=some ts→seesA P (G.upd a o) as=some ts
 | [],ts,h=>h
 | x::as,ts,h=>by
  simp only[seesA]at h⊢;cases h1:rD P G x with
  | none=>rw[h1]at h;cases h
  | some y=>
   have t1:rD P (G.upd a o) x=some y:=by
    cases x with
    | agg cs=>
     simp only[rD]at h1⊢;obtain⟨q,hq,rfl⟩:=Option.map_eq_some_iff.1 h1;rw[rF hG hq];rfl
    | fn f cs=>
     simp only[rD]at h1⊢;obtain⟨q,hq,rfl⟩:=Option.map_eq_some_iff.1 h1;rw[rF hG hq];rfl
    | _=>
     simp only[rD]at h1⊢;exact Dy hG h1
   cases h2:seesA P G as with
   | none=>rw[h1,h2]at h;cases h
   | some q=>rw[h1,h2]at h;rw[t1,BN hG h2];exact h
theorem Vj {i j:Nat} {oi oj:Oper} (hr:uf ops=false) (hi:ops[i]? =some oi) (hj:ops[j]? =some oj) (hap:oj.apart ops oi=true) (hl:Hr oi=true) (hm:JA P oj=true) (hf:Fin G)
  (h1:Step P N ops j s G s1 G1) (h2:Step P N ops i s1 G1 s2 G2):∃s1' G1',Step P N ops i s G s1' G1'∧Step P N ops j s1' G1' s2 G2:=by
 obtain⟨a1,a2,a3⟩:=Oper.apart_spec hap;obtain⟨hd1,u,rfl,e1⟩:=(dG hj).1 h1;obtain⟨hd2,v,rfl,e2⟩:=(dG hi).1 h2;have si:Same ops oi s (s.put oj.dst u):=eP a1;have si':Same ops oi (s.put oj.dst u) s:=⟨fun x hx=>(si.1 x hx).symm,si.2.symm⟩;have sj:Same ops oj s (s.put oi.dst v):=eP a3;have e2':=e2.congr si';have mpi:mustPure ops oi=false:=(by simp[mustPure,hr]);have mpj:mustPure ops oj=false:=(by simp[mustPure,hr]);unfold Hr at hl;split at hl
 ·rename_i t hop hgd;have hev:∀G3 nx3,evC P s G3 nx3 oi=iq P s G3 nx3 (.alloc t):=fun G3 nx3=>(by unfold evC;rw[hop]);cases e2' with
  | off hw=>simp[wantA,hgd]at hw
  | pure hw hm hp'=>rw[mpi]at hm;cases hm
  | call hw hc=>simp[callA,hop]at hc
  | keep hw hc=>simp[callA,hop]at hc
  | inl hw hc=>simp[callA,hop]at hc
  | @op _ _ a nx' hw hmm hn he=>
   rw[hev]at he;simp only[iq]at he;split at he
   ·rename_i z hz;simp only[Option.some.injEq,Prod.mk.injEq]at he;obtain⟨rfl,rfl,rfl⟩:=he;have x1:∀ {G:Hp},G a=none→Eff P ops oi s G (.ptr a 0) (G.upd a (.var t (z.map .v))):=fun {G} hG=> .op (nx:=a) (nx':=a+1) hw hmm hG (by rw[hev];simp only[iq,hz]);unfold JA at hm;split at hm
    ·rename_i c hopj;split at hm
     ·rename_i f hcal;have hfn:∀ {f' as},callA s oj=some (f',as)→f'=f:=fun hc=>by
       simp only[callA,hopj,hcal,Option.some.injEq,Prod.mk.injEq]at hc;exact hc.1.symm
      cases e1 with
      | off hw'=>exact⟨_,_,(dG hi).2 ⟨hd2,_,rfl,x1 hn⟩,(dG hj).2 ⟨hd1,_,put_comm a2,(Eff.off hw').congr sj⟩⟩
      | pure hw hm hp'=>rw[mpj]at hm;cases hm
      | op hw hm hn he=>
       unfold evC at he;rw[hopj]at he;simp only[hcal]at he;cases he
      | @call G' f as ts r J nx hw' hc ha hn' hk=>
       have hra:¬(nx≤a∧a-nx<J.length):=fun hj=>by
        have:addJ G' nx J a=ofJ J (a-nx):=(by simp only[addJ];rw[if_pos hj]);rw[hn]at this;simp[ofJ,hj.2]at this
       have hGa':G' a=none:=by
        have:addJ G' nx J a=G' a:=(by simp only[addJ];rw[if_neg hra]);rw[←this];exact hn
       have hGa:G a=none:=by
        cases hx:G a with
        | none=>rfl
        | some o=>
         rcases Grows.args ha a o hx with h3 | ⟨_,_,_,h3⟩
         ·rw[h3]at hGa';cases hGa'
         ·rw[h3]at hGa';cases hGa'
       obtain⟨_,q2⟩:=rY (o:=.var t (z.map .v)) as hGa ha;refine⟨_,_,(dG hi).2 ⟨hd2,_,rfl,x1 hGa⟩,(dG hj).2 ⟨hd1,_,put_comm a2,Eff.congr sj ?_⟩⟩;rw[←uF hra];exact .call hw' hc q2 (fun j hj=>by
        have:j≠a:=fun e=>hra (by rw[←e];exact hj);rw[Hp.upd_ne _ _ this];exact hn' j hj) hk
      | @keep f as ts r J nx hw' hc ha hn' hk hkeep=>
       have hra:¬(nx≤a∧a-nx<J.length):=fun hj=>by
        have:addJ G nx J a=ofJ J (a-nx):=(by simp only[addJ];rw[if_pos hj]);rw[hn]at this;simp[ofJ,hj.2]at this
       have hGa:G a=none:=by
        have:addJ G nx J a=G a:=(by simp only[addJ];rw[if_neg hra]);rw[←this];exact hn
       refine⟨_,_,(dG hi).2 ⟨hd2,_,rfl,x1 hGa⟩,(dG hj).2 ⟨hd1,_,put_comm a2,Eff.congr sj ?_⟩⟩;rw[←uF hra];exact .keep hw' hc (BN hGa ha) (fun j hj=>by
        have:j≠a:=fun e=>hra (by rw[←e];exact hj);rw[Hp.upd_ne _ _ this];exact hn' j hj) hk hkeep
      | inl hw' hc hne=>
       have:=hfn hc;subst this;rw[hne.2]at hm;cases hm
     ·cases hm
    ·cases hm
   ·cases he
 ·cases hl
def UD:Option AObj→Option AObj
 | some (.row e (c::cs))=>some (.frz e (c::cs))
 | o=>o
def rG (c:AV) (i:Nat):Bool:=match c with
 | .row id _=>i==id
 | _=>false
theorem oN {G:Hp} {c:AV} {i:Nat} :bT G c i=if rG c i=true then UD (G i)else G i:=by
 cases c with
 | row id n=>
  by_cases h:i=id
  ·subst h;simp only[rG,beq_self_eq_true,if_true];simp only[bT];cases hG:G i with
   | none=>simp only[UD,hG]
   | some o=>
    cases o with
    | row e cs=>
     cases cs with
     | nil=>simp only[UD,hG]
     | cons x cs=>simp only[UD,Hp.bW]
    | _=>simp only[UD,hG]
  ·have:rG (.row id n) i=false:=(by simp[rG,h]);rw[this];simp only[bT];cases hG:G id with
   | none=>rfl
   | some o=>
    cases o with
    | row e cs=>
     cases cs with
     | nil=>rfl
     | cons x cs=>exact Hp.upd_ne _ _ h
    | _=>rfl
 | _=>rfl
theorem LK {G:Hp} {c:AV} {i:Nat} :bT G c i=G i∨∃n e a cs,c=.row i n∧G i=some (.row e (a::cs))∧bT G c i=some (.frz e (a::cs)):=by
 rw[oN];cases c with
 | row id n=>
  by_cases h:i=id
  ·subst h;simp only[rG,beq_self_eq_true,if_true];cases hG:G i with
   | none=>exact .inl rfl
   | some o=>
    cases o with
    | row e cs=>
     cases cs with
     | nil=>exact .inl rfl
     | cons x cs=>exact .inr ⟨n,e,x,cs,rfl,rfl,rfl⟩
    | _=>exact .inl rfl
  ·have:rG (.row id n) i=false:=(by simp[rG,h]);rw[this];exact .inl rfl
 | _=>exact .inl rfl
theorem uN {G:Hp} {a c:AV} :bJ P (bT G a) c=bJ P G c:=by
 cases c with
 | row id n=>
  rcases LK (G:=G) (c:=a) (i:=id)with h | ⟨_,e,x,cs,_,h1,h2⟩
  ·simp only[bJ,h]
  ·simp only[bJ,h1,h2]
 | _=>rfl
theorem OH {G:Hp} {a c:AV} :bT (bT G a) c=bT (bT G c) a:=by
 funext i;rw[oN,oN,oN,oN];cases rG a i<;>cases rG c i<;>rfl
theorem yO {c:AV} :∀(as:List AV) {G:Hp},bT (as.foldl bT G) c=as.foldl bT (bT G c)
 | [],G=>rfl
 | a::as,G=>by
  rw[List.foldl_cons,List.foldl_cons,yO as,OH]
theorem Dp:∀(as cs:List AV) {G:Hp},as.foldl bT (cs.foldl bT G)=cs.foldl bT (as.foldl bT G)
 | [],cs,G=>rfl
 | a::as,cs,G=>by
  rw[List.foldl_cons,List.foldl_cons,yO cs,Dp as cs]
theorem wP {c:AV} :∀(as:List AV) {G:Hp},bJ P (as.foldl bT G) c=bJ P G c
 | [],G=>rfl
 | a::as,G=>by rw[List.foldl_cons,wP as,uN]
theorem wW {i:Nat} :∀(as:List AV) {G:Hp},as.foldl bT G i=none↔G i=none
 | [],G=>Iff.rfl
 | a::as,G=>by
  rw[List.foldl_cons,wW as];rcases LK (G:=G) (c:=a) (i:=i)with h | ⟨_,_,_,_,_,h1,h2⟩
  ·rw[h]
  ·rw[h1,h2];simp
theorem SI {G:Hp} {b:Nat} {o:AObj} {c:AV} (h:∀n,c≠ .row b n):bT (G.upd b o) c=(bT G c).upd b o:=by
 funext i;by_cases hb:i=b
 ·subst hb;have:rG c i=false:=by
   cases c with
   | row id n=>
    have:¬i=id:=fun e=>h n (by rw[e]);simp[rG,this]
   | _=>rfl
  rw[oN,this,Hp.bW,Hp.bW];rfl
 ·rw[oN,Hp.upd_ne _ _ hb,Hp.upd_ne _ _ hb,oN]
theorem zO {b:Nat} {o:AObj} :∀(as:List AV) {G:Hp},(∀c∈as,∀n,c≠ .row b n)→as.foldl bT (G.upd b o)=(as.foldl bT G).upd b o
 | [],G,_=>rfl
 | a::as,G,h=>by
  rw[List.foldl_cons,List.foldl_cons,SI (h a (by simp)),zO as fun c hc=>h c (by simp[hc])]
theorem Gf {G:Hp} {b:Nat} {o:AObj} {c:AV} (h:∀n,c≠ .row b n):bJ P (G.upd b o) c=bJ P G c:=by
 cases c with
 | row id n=>
  have hb:¬id=b:=fun e=>h n (by rw[e]);simp only[bJ];rw[Hp.upd_ne _ _ hb]
 | _=>rfl
theorem kT:∀(as:List AV) {G:Hp},bY P G as=(as.mapM (bJ P G)).map fun ts=>(ts,as.foldl bT G)
 | [],G=>rfl
 | a::as,G=>by
  have e:as.mapM (bJ P (bT G a))=as.mapM (bJ P G):=by
   congr 1;funext c;exact uN
  simp only[bY,kT as,e,List.mapM_cons,List.foldl_cons];cases bJ P G a with
  | none=>rfl
  | some t=>cases as.mapM (bJ P G)<;>rfl
theorem mapM_some {α β:Type} {f:α→Option β} :∀ {l:List α} {r:List β},l.mapM f=some r→∀c∈l,∃y,f c=some y
 | [],r,_,c,hc=>by cases hc
 | a::l,r,h,c,hc=>by
  rw[List.mapM_cons]at h;cases ha:f a with
  | none=>rw[ha]at h;cases h
  | some y=>
   rw[ha]at h;cases hl:l.mapM f with
   | none=>rw[hl]at h;cases h
   | some ys=>
    rcases List.mem_cons.1 hc with rfl | hc
    ·exact⟨y,ha⟩
    ·exact mapM_some hl c hc
theorem LP {G:Hp} :∀ {l:List AV},l.any isFn=true→l.mapM (bJ P G)=none
 | [],h=>by cases h
 | a::l,h=>by
  rw[List.mapM_cons];rw[List.any_cons,Bool.or_eq_true]at h;rcases h with h | h
  ·have:bJ P G a=none:=by
    cases a<;>first | (simp[isFn]at h;done) | rfl
   rw[this];rfl
  ·rw[LP h];cases bJ P G a<;>rfl
theorem AU {o:Oper} (hm:oJ o=true) {G G':Hp} {a nx':Nat} {v:AV} (he:evC P s G a o=some (v,G',nx')):∃(cs:List AV) (obj:AObj) (val:Nat→AV),v=val a∧G'=(cs.foldl bT G).upd a obj∧
  (∀c∈cs,∃x∈o.op.operands,c∈(evX s x).cells)∧(∀c∈cs,∃y,bJ P G c=some y)∧∀G2 b,(∀c∈cs,bJ P G2 c=bJ P G c)→evC P s G2 b o=some (val b,(cs.foldl bT G2).upd b obj,b+1):=by
 unfold oJ at hm;split at hm
 ·rename_i t hop hgd;have hev:∀G3 nx3,evC P s G3 nx3 o=iq P s G3 nx3 (.alloc t):=fun G3 nx3=>(by unfold evC;rw[hop]);rw[hev]at he;simp only[iq]at he;split at he
  ·rename_i z hz;simp only[Option.some.injEq,Prod.mk.injEq]at he;obtain⟨rfl,rfl,rfl⟩:=he;exact⟨[],_,fun b=> .ptr b 0,rfl,rfl,by simp,by simp,fun G2 b _=>by rw[hev];simp only[iq,hz];rfl⟩
  ·cases he
 ·rename_i t n ps hop hgd;have hev:∀G3 nx3,evC P s G3 nx3 o=iq P s G3 nx3 (.buildSlice t n ps):=fun G3 nx3=>(by unfold evC;rw[hop]);rw[hev]at he;simp only[iq]at he;split at he
  ·rename_i e k q r hel;split at he
   ·rename_i hc;generalize hcs:(ps.toList.flatMap fun p=>(evX s p.2).cells)=cs at he;split at he
    ·rename_i ts G1 ht;simp only[Option.some.injEq,Prod.mk.injEq]at he;obtain⟨rfl,rfl,rfl⟩:=he;rw[kT]at ht;obtain⟨ts',hts,ht2⟩:=Option.map_eq_some_iff.1 ht;simp only[Prod.mk.injEq]at ht2;obtain⟨rfl,rfl⟩:=ht2;refine⟨cs,_,fun b=> .row b n,rfl,rfl,fun c hcm=> ?_,mapM_some hts,fun G2 b hG2=> ?_⟩
     ·rw[←hcs]at hcm;obtain⟨p,hp,hcp⟩:=List.mem_flatMap.1 hcm;refine⟨p.2,?_,hcp⟩;rw[hop];simp only[Op.operands];exact List.mem_toArray.2 (List.mem_map_of_mem (f:=fun x:Nat×Operand=>x.2) hp)
     ·rw[hev];simp only[iq,hel];rw[if_pos hc,hcs,kT];have:cs.mapM (bJ P G2)=cs.mapM (bJ P G):=by
       clear hcs ht hts;induction cs with
       | nil=>rfl
       | cons c cs ih=>rw[List.mapM_cons,List.mapM_cons,hG2 c (by simp),ih fun c hc=>hG2 c (by simp[hc])]
      rw[this,hts];rfl
    ·rename_i ht;split at he
     ·rename_i hf;simp only[Option.some.injEq,Prod.mk.injEq]at he;obtain⟨rfl,rfl,rfl⟩:=he;refine⟨[],_,fun b=> .row b n,rfl,rfl,by simp,by simp,fun G2 b _=> ?_⟩;rw[hev];simp only[iq,hel];rw[if_pos hc,hcs,kT,LP hf.1];simp only[Option.map_none];rw[if_pos hf];rfl
     ·cases he
   ·cases he
  ·cases he
 ·cases hm
theorem Vm {i j:Nat} {oi oj:Oper} (hr:uf ops=false) (hi:ops[i]? =some oi) (hj:ops[j]? =some oj) (hap:oj.apart ops oi=true) (hl:oJ oi=true) (hm:oJ oj=true) (hK:∀x∈oi.op.operands,∀c∈(evX s x).cells,∀id n,c=.row id n→∃o,G id=some o)
  (h1:Step P N ops j s G s1 G1) (h2:Step P N ops i s1 G1 s2 G2):∃s1' G1',Step P N ops i s G s1' G1'∧Step P N ops j s1' G1' s2 G2:=by
 obtain⟨a1,a2,a3⟩:=Oper.apart_spec hap;obtain⟨hd1,u,rfl,e1⟩:=(dG hj).1 h1;obtain⟨hd2,v,rfl,e2⟩:=(dG hi).1 h2;have si:Same ops oi s (s.put oj.dst u):=eP a1;have si':Same ops oi (s.put oj.dst u) s:=⟨fun x hx=>(si.1 x hx).symm,si.2.symm⟩;have sj:Same ops oj s (s.put oi.dst v):=eP a3;have e2':=e2.congr si';have noG:∀ {o:Oper},oJ o=true→o.guard=none∧callA s o=none:=fun {o} h=>by
  unfold oJ at h;split at h
  ·rename_i hop hg;exact⟨hg,by simp[callA,hop]⟩
  ·rename_i hop hg;exact⟨hg,by simp[callA,hop]⟩
  ·cases h
 obtain⟨gi,ci⟩:=noG hl;obtain⟨gj,cj⟩:=noG hm;have mpi:mustPure ops oi=false:=(by simp[mustPure,hr]);have mpj:mustPure ops oj=false:=(by simp[mustPure,hr]);cases e1 with
 | off hw=>simp[wantA,gj]at hw
 | pure hw hm' _=>rw[mpj]at hm';cases hm'
 | call hw hc=>rw[cj]at hc;cases hc
 | keep hw hc=>rw[cj]at hc;cases hc
 | inl hw hc=>rw[cj]at hc;cases hc
 | @op _ _ b nb hwj hmj hnb hej=>
 cases e2' with
 | off hw=>simp[wantA,gi]at hw
 | pure hw hm' _=>rw[mpi]at hm';cases hm'
 | call hw hc=>rw[ci]at hc;cases hc
 | keep hw hc=>rw[ci]at hc;cases hc
 | inl hw hc=>rw[ci]at hc;cases hc
 | @op _ _ a na hwi hmi hna hei=>
 obtain⟨cs,ob,vb,rfl,rfl,hcs,hct,hcr⟩:=AU hm hej;obtain⟨ds,oa,va,rfl,rfl,hds,hdt,hdr⟩:=AU hl hei;have hab:¬a=b:=fun e=>(by subst e;rw[Hp.bW]at hna;cases hna);have hGa:G a=none:=by
  rw[Hp.upd_ne _ _ hab]at hna;exact(wW cs).1 hna
 have dne:∀c∈ds,∀n,c≠ .row b n:=fun c hc n e=>by
  obtain⟨x,hx,hcx⟩:=hds c hc;obtain⟨o,ho⟩:=hK x hx c hcx b n e;rw[hnb]at ho;cases ho
 have cne:∀c∈cs,∀n,c≠ .row a n:=fun c hc n e=>by
  obtain⟨y,hy⟩:=hct c hc;subst e;simp[bJ,hGa]at hy
 have x1:evC P s G a oi=some (va a,(ds.foldl bT G).upd a oa,a+1):=hdr G a fun c hc=>(by rw[Gf (dne c hc),wP]);have x2:evC P s ((ds.foldl bT G).upd a oa) b oj=some (vb b,(cs.foldl bT ((ds.foldl bT G).upd a oa)).upd b ob,b+1):=hcr _ b fun c hc=>(by rw[Gf (cne c hc),wP]);have hb2:((ds.foldl bT G).upd a oa) b=none:=by
  rw[Hp.upd_ne _ _ (fun e=>hab e.symm)];exact(wW ds).2 hnb
 refine⟨_,_,(dG hi).2 ⟨hd2,_,rfl,.op hwi hmi hGa x1⟩,(dG hj).2 ⟨hd1,_,put_comm a2,Eff.congr sj ?_⟩⟩;have hG2:(ds.foldl bT ((cs.foldl bT G).upd b ob)).upd a oa=(cs.foldl bT ((ds.foldl bT G).upd a oa)).upd b ob:=by
  rw[zO ds dne,zO cs cne,Dp ds cs,Hp.qj _ _ _ (fun e=>hab e.symm)]
 rw[hG2];exact .op hwj hmj hb2 x2
theorem RelAt.TI (h:RelAt P N E1 w1 s G a w E) (x:Operand) (c:AV) (hc:c∈(evX s x).cells) (id n:Nat) (he:c=.row id n):∃o,G id=some o:=by
 subst he;refine(h.rel.K id).1 ?_;have hv:=jH h.slots x;generalize evX s x=y at*;cases y with
 | agg cs=>
  obtain⟨us,_,hl,h1,_⟩:=hv.jO;obtain⟨k,hk,he⟩:=List.mem_iff_getElem.1 (show AV.row id n∈cs from hc);exact(h1 k _ (us[k]'(by omega)) (by rw[List.getElem?_eq_getElem hk,he]) (List.getElem?_eq_getElem (by omega))).root rfl
 | row i m=>
  have:AV.row id n=.row i m:=(by simpa [AV.cells]using hc);injection this with e1 e2;subst e1;exact hv.root rfl
 | _=>simp[AV.cells]at hc
theorem OO {o:Oper} (hr:uf ops=false) (h:JA P o=true):kG ops o≤2:=by
 rw[iy (by simp[mustPure,hr])];unfold JA at h;split at h
 ·rename_i hop;split at h
  ·rename_i hc;simp[clsOf,hop,hc]
  ·cases h
 ·cases h
theorem Py {o:Oper} (hr:uf ops=false) (h:oJ o=true):kG ops o≤2:=by
 rw[iy (by simp[mustPure,hr])];unfold oJ at h;split at h
 ·rename_i hop _;simp[clsOf,hop]
 ·rename_i hop _;simp[clsOf,hop]
 ·cases h
theorem SA {o:Oper} (hr:uf ops=false) (h:oJ o=true):kG ops o≠0:=by
 rw[iy (by simp[mustPure,hr])];unfold oJ at h;split at h
 ·rename_i hop _;simp[clsOf,hop]
 ·rename_i hop _;simp[clsOf,hop]
 ·cases h
theorem RX {o:Oper} {qs:List Tmp} (hr:uf ops=false) (h:Sr qs o=true):kG ops o≤2:=by
 rw[iy (by simp[mustPure,hr])];unfold Sr at h;split at h
 ·cases h
 split at h
 ·rename_i hop;simp[clsOf,hop]
 ·rename_i hop;simp[clsOf,hop]
 ·rename_i hop;split at h
  ·rename_i hc;simp[clsOf,hop,hc]
  ·cases h
 ·cases h
theorem PN {o:Oper} {p:Tmp} (hr:uf ops=false) (h:Dc o p=true):kG ops o≠0:=by
 rw[iy (by simp[mustPure,hr])];unfold Dc at h;split at h
 ·rename_i hop _;simp[clsOf,hop]
 ·cases h
theorem Gn {o:Oper} {p:Tmp} (hr:uf ops=false) (h:LX o p=true):kG ops o=1∧∃t,o.op=.load t (.tmp p):=by
 rw[iy (by simp[mustPure,hr])];unfold LX at h;split at h
 ·rename_i t q hop;simp only[beq_iff_eq]at h;subst h;exact⟨by simp[clsOf,hop],t,hop⟩
 ·cases h
theorem MF {o:Oper} {nx nx2:Nat} {v:AV} (h:Tv o=true) (hn:G nx=none) (he:evC P s G nx o=some (v,G2,nx2)) {id:Nat} {t:TypeId} {cs:List AV} (hG:G id=some (.var t cs)):G2 id=some (.var t cs):=by
 unfold Tv at h;split at h
 ·rename_i c hop hg;split at h
  ·rename_i hca;unfold evC at he;rw[hop]at he;simp only[hca]at he;split at he
   ·split at he
    ·unfold og at he;split at he
     ·cases he
     ·rename_i e k by' z hel;split at he
      ·rename_i n cs' id' m ms hb hs;split at he
       ·simp only[Option.some.injEq,Prod.mk.injEq]at he;obtain⟨_,rfl,_⟩:=he;have h1:id≠nx:=fun e=>(by rw[e,hn]at hG;cases hG);rw[Hp.upd_ne _ _ h1];cases id' with
        | none=>exact hG
        | some i=>
         have h2:id≠i:=fun e=>by
          subst e;unfold mD at hb;split at hb
          ·cases hb
          ·split at hb
           ·rename_i e' cs2 hG2;split at hb
            ·simp only[Option.some.injEq,Prod.mk.injEq]at hb;obtain⟨_,_,rfl⟩:=hb;rw[hG]at hG2;cases hG2
            ·cases hb
           ·cases hb
          ·cases hb
         show(G.upd i .dead) id=_;rw[Hp.upd_ne _ _ h2];exact hG
       ·cases he
      ·cases he
    ·cases he
   ·cases he
  ·cases h
 ·cases h
theorem Vf {i j:Nat} {oi oj:Oper} {p:Tmp} {qs:List Tmp} (hr:uf ops=false) (hi:ops[i]? =some oi) (hj:ops[j]? =some oj) (hap:oj.apart ops oi=true) (hl:Tv oi=true) (hm:LX oj p=true) (hS:wX s (some p) qs) (hf:Fin G)
  (h1:Step P N ops j s G s1 G1) (h2:Step P N ops i s1 G1 s2 G2):∃s1' G1',Step P N ops i s G s1' G1'∧Step P N ops j s1' G1' s2 G2:=by
 obtain⟨a1,a2,a3⟩:=Oper.apart_spec hap;obtain⟨hd1,u,rfl,e1⟩:=(dG hj).1 h1;obtain⟨hd2,v,rfl,e2⟩:=(dG hi).1 h2;have si:Same ops oi s (s.put oj.dst u):=eP a1;have si':Same ops oi (s.put oj.dst u) s:=⟨fun x hx=>(si.1 x hx).symm,si.2.symm⟩;have sj:Same ops oj s (s.put oi.dst v):=eP a3;have e2':=e2.congr si';obtain⟨c1,t,hop⟩:=Gn hr hm;obtain⟨id,off,hp,_⟩:=hS p rfl;obtain⟨hGG,h3⟩:=e1.read c1;have mpi:mustPure ops oi=false:=(by simp[mustPure,hr]);have mpj:mustPure ops oj=false:=(by simp[mustPure,hr]);have ci:callA s oi=none∧oi.guard=none:=by
  unfold Tv at hl;split at hl
  ·rename_i c hopi hg;split at hl
   ·rename_i hca;exact⟨by simp[callA,hopi,hca],hg⟩
   ·cases hl
  ·cases hl
 have hkeep:∀ {t0:TypeId} {cs:List AV},G1 id=some (.var t0 cs)→G2 id=some (.var t0 cs):=fun {t0 cs} hG=>by
  cases e2' with
  | off hw=>exact hG
  | pure hw hm' _=>rw[mpi]at hm';cases hm'
  | call hw hc=>rw[ci.1]at hc;cases hc
  | keep hw hc=>rw[ci.1]at hc;cases hc
  | inl hw hc=>rw[ci.1]at hc;cases hc
  | op hwi hmi hna hei=>exact MF hl hna hei hG
 have hfin2:Fin G2:=e2'.fin (by rw[hGG];exact hf);have hstep:=e2';rw[hGG]at hstep;refine⟨_,_,(dG hi).2 ⟨hd2,v,rfl,hstep⟩,(dG hj).2 ⟨hd1,u,put_comm a2,Eff.congr sj ?_⟩⟩;clear hstep;cases e1 with
 | off hw=>exact .off hw
 | pure hw hm' _=>rw[mpj]at hm';cases hm'
 | call hw hc=>simp[callA,hop]at hc
 | keep hw hc=>simp[callA,hop]at hc
 | inl hw hc=>simp[callA,hop]at hc
 | op hw hm' hn he=>
  subst hGG;have hv:∃t0 cs,G1 id=some (.var t0 cs):=by
   cases hGi:G1 id with
   | none=>(exfalso;cases htt:tyI P t<;>simp[evC,hop,iq,evX,hp,iG,rC,hGi,htt,tN]at he)
   | some o=>
    cases o with
    | var t0 cs=>exact⟨t0,cs,rfl⟩
    | _=>(exfalso;cases htt:tyI P t<;>simp[evC,hop,iq,evX,hp,iG,rC,hGi,htt,tN]at he)
  obtain⟨t0,cs,hG⟩:=hv;refine h3 _ hfin2 fun x hx i o hri hio=> ?_;have hx:x=.tmp p:=(by simpa [Op.operands,hop]using hx);subst hx;have hri:mJ (s p)=some i:=hri;rw[hp]at hri;have:id=i:=(by simpa [mJ]using hri);subst this;rw[hG]at hio;injection hio with hio;subst hio;exact .inl (hkeep hG).symm
theorem LZ {t:TypeId} {x:AV} {lo hi:Nat→Option Nat} {r:AV×Hp} (h:eH P G t x lo hi=some r):r.2=bT G x∧(∃y,bJ P G x=some y)∧∀G2:Hp,bJ P G2 x=bJ P G x→eH P G2 t x lo hi=some (r.1,bT G2 x):=by
 unfold eH at h;split at h
 ·rename_i b;refine⟨?_,⟨_,rfl⟩,fun G2 _=> ?_⟩
  ·split at h
   ·split at h
    ·injection h with h;subst h;rfl
    ·cases h
   ·cases h
  ·unfold eH;split at h
   ·rename_i l h' e1 e2;split at h
    ·rename_i hc;injection h with h;subst h;simp only[e1,e2,if_pos hc];rfl
    ·cases h
   ·cases h
 ·rename_i hx;split at h
  ·rename_i q0 k by' z n cs e1 e2;split at h
   ·rename_i l h' e3 e4;split at h
    ·rename_i hc;injection h with h;subst h;refine⟨rfl,⟨_,e2⟩,fun G2 hG2=> ?_⟩;unfold eH;split
     ·rename_i b;exact(hx b rfl).elim
     ·rw[hG2];simp only[e1,e2,e3,e4,if_pos hc]
    ·cases h
   ·cases h
  ·cases h
theorem Gv {o:Oper} (h:Lh P o=true) {nx nx':Nat} {v:AV} (he:evC P s G nx o=some (v,G',nx')):∃x:AV,G'=bT G x∧(∃y,bJ P G x=some y)∧∀(G2:Hp) nx2,bJ P G2 x=bJ P G x→evC P s G2 nx2 o=some (v,bT G2 x,nx2):=by
 unfold Lh at h;split at h
 ·rename_i t xo lo hi hop;obtain⟨hsh,hdr⟩:(Gl.shr P t&&lo.isNone)=false∧Fj P t lo hi=false:=(by simp only[Bool.and_eq_true,Bool.not_eq_true']at h;exact h);have ev:∀(G:Hp) nx,evC P s G nx o=(eH P G t (evX s xo) (fun d=>bnd s d lo) (fun d=>bnd s d hi)).map fun r=>(r.1,r.2,nx):=fun G nx=>by
   unfold evC;rw[hop];simp only[iq,hsh,hdr];rfl
  rw[ev]at he;obtain⟨r,hr,he⟩:=Option.map_eq_some_iff.1 he;simp only[Prod.mk.injEq]at he;obtain⟨rfl,rfl,rfl⟩:=he;obtain⟨h1,h2,h3⟩:=LZ hr;exact⟨_,h1,h2,fun G2 nx2 hG2=>by rw[ev,h3 G2 hG2];rfl⟩
 ·cases h
theorem Gj {o:Oper} (h:Lh P o=true):callA s o=none:=by
 unfold Lh at h;split at h
 ·rename_i hop;simp[callA,hop]
 ·cases h
theorem vJ {o:Oper} (hr:uf ops=false) (h:Lh P o=true) {v:AV} (he:Eff P ops o s G v G'):Grows G G':=by
 have mp:mustPure ops o=false:=(by simp[mustPure,hr]);have hc:=Gj (s:=s) h;cases he with
 | off=>exact .refl _
 | pure hw hm=>rw[mp]at hm;cases hm
 | call hw hc'=>rw[hc]at hc';cases hc'
 | keep hw hc'=>rw[hc]at hc';cases hc'
 | inl hw hc'=>rw[hc]at hc';cases hc'
 | op hw hm hn he=>
  obtain⟨x,rfl,_⟩:=Gv h he;exact .frz x
theorem GZ:∀ {l:List Operand} {G G':Hp} {ts:List AV},l.all Un=true→argsOf P G (l.map (evX s))=some (ts,G')→G'=G∧∀G2,argsOf P G2 (l.map (evX s))=some (ts,G2)
 | [],G,G',ts,_,h=>by
  simp only[List.map_nil,argsOf,Option.some.injEq,Prod.mk.injEq]at h;obtain⟨rfl,rfl⟩:=h;exact⟨rfl,fun _=>rfl⟩
 | x::l,G,G',ts,hl,h=>by
  simp only[List.all_cons,Bool.and_eq_true]at hl;cases x with
  | const y=>
   simp only[List.map_cons]at h⊢;by_cases hy:y.oneCell'=true
   ·simp only[evX,if_pos hy,argsOf,bJ,bT]at h⊢;cases h2:argsOf P G (l.map (evX s))with
    | none=>rw[h2]at h;cases h
    | some q=>
     obtain⟨rs,G3⟩:=q;rw[h2]at h;simp only[Option.some.injEq,Prod.mk.injEq]at h;obtain⟨rfl,rfl⟩:=h;obtain⟨r1,r2⟩:=GZ hl.2 h2;exact⟨r1,fun G2=>by rw[r2 G2]⟩
   ·simp only[evX,if_neg hy,argsOf,bJ]at h;cases h
  | _=>simp[Un]at hl
theorem Gz:∀ {l:List Operand} {G:Hp} {ts:List AV},l.all Un=true→seesA P G (l.map (evX s))=some ts→∀G2,seesA P G2 (l.map (evX s))=some ts
 | [],G,ts,_,h=>fun _=>h
 | x::l,G,ts,hl,h=>fun G2=>by
  simp only[List.all_cons,Bool.and_eq_true]at hl;cases x with
  | const y=>
   simp only[List.map_cons]at h⊢;by_cases hy:y.oneCell'=true
   ·simp only[evX,if_pos hy,seesA,rD,lookA]at h⊢;cases h2:seesA P G (l.map (evX s))with
    | none=>rw[h2]at h;cases h
    | some q=>rw[h2]at h;rw[Gz hl.2 h2 G2];exact h
   ·simp only[evX,if_neg hy,seesA,rD,lookA]at h;cases h
  | _=>simp[Un]at hl
theorem MG {nx:Nat} {J:Js} {x y:AV} (hn:∀j,nx≤j∧j-nx<J.length→G j=Option.none) (h:bJ P G x=some y):bJ P (addJ G nx J) x=bJ P G x:=by
 (cases x<;>try rfl);rename_i id n;have hid:¬(nx≤id∧id-nx<J.length):=fun hj=>by
  simp only[bJ,hn id hj]at h;cases h
 have e:addJ G nx J id=G id:=(by simp only[addJ];rw[if_neg hid]);simp only[bJ,e]
theorem PO {nx:Nat} {J:Js} {x y:AV} (hn:∀j,nx≤j∧j-nx<J.length→G j=Option.none) (h:bJ P G x=some y):bT (addJ G nx J) x=addJ (bT G x) nx J:=by
 funext i;rw[oN];simp only[addJ];by_cases hj:nx≤i∧i-nx<J.length
 ·have:rG x i=false:=by
   (cases x<;>try rfl);rename_i id n;simp only[rG,beq_eq_false_iff_ne];rintro rfl;simp only[bJ,hn _ hj]at h;cases h
  simp only[this,if_pos hj,if_false,Bool.false_eq_true]
 ·simp only[if_neg hj,oN]
theorem Vt {i j:Nat} {oi oj:Oper} (hr:uf ops=false) (hi:ops[i]? =some oi) (hj:ops[j]? =some oj) (hap:oj.apart ops oi=true) (hc:(Lh P oi=true∧kG ops oj=1)∨(Lh P oj=true∧(kG ops oi=1∨UL P oi=true))) (hf:Fin G) (hK:kG ops oi=0∨∀x∈oi.op.operands,∀id,mJ (evX s x)=some id→∃o,G id=some o)
  (h1:Step P N ops j s G s1 G1) (h2:Step P N ops i s1 G1 s2 G2):∃s1' G1',Step P N ops i s G s1' G1'∧Step P N ops j s1' G1' s2 G2:=by
 obtain⟨a1,a2,a3⟩:=Oper.apart_spec hap;obtain⟨hd1,u,rfl,e1⟩:=(dG hj).1 h1;obtain⟨hd2,v,rfl,e2⟩:=(dG hi).1 h2;have si:Same ops oi s (s.put oj.dst u):=eP a1;have si':Same ops oi (s.put oj.dst u) s:=⟨fun x hx=>(si.1 x hx).symm,si.2.symm⟩;have sj:Same ops oj s (s.put oi.dst v):=eP a3;have e2':=e2.congr si';have fin:∀ {G1':Hp},Eff P ops oi s G v G1'→Eff P ops oj s G1' u G2→∃s1' G1',Step P N ops i s G s1' G1'∧Step P N ops j s1' G1' ((s.put oj.dst u).put oi.dst v) G2:=by
  intro G1' x1 x2;exact⟨_,_,(dG hi).2 ⟨hd2,v,rfl,x1⟩,(dG hj).2 ⟨hd1,u,put_comm a2,x2.congr sj⟩⟩
 rcases hc with⟨hs,h1c⟩ | ⟨hs,h1c | h1c⟩
 ·obtain⟨q1,q2⟩:=e1.read h1c;subst q1;exact fin e2' (q2 G2 (e2.fin hf) fun x _=>(vJ hr hs e2').at _)
 ·obtain⟨q1,q2⟩:=e2'.read h1c;subst q1;have hK:=hK.resolve_left (by omega);exact fin (q2 G hf fun x hx=>(vJ hr hs e1).back (hK x hx)) e1
 have mpi:mustPure ops oi=false:=(by simp[mustPure,hr]);have mpj:mustPure ops oj=false:=(by simp[mustPure,hr]);have hcj:=Gj (s:=s) hs;cases e1 with
 | off hw=>exact fin e2' (.off hw)
 | pure hw hm=>rw[mpj]at hm;cases hm
 | call hw hc'=>rw[hcj]at hc';cases hc'
 | keep hw hc'=>rw[hcj]at hc';cases hc'
 | inl hw hc'=>rw[hcj]at hc';cases hc'
 | @op _ _ nx0 nx0' hwj hmj hnj hej=>
  obtain⟨x,hG1,⟨y,hy⟩,hx⟩:=Gv hs hej;subst hG1;have hback:∀ {k},bT G x k=none→G k=none:=fun {k} hk=>by
   cases hg:G k with
   | none=>rfl
   | some o=>
    rcases Grows.frz x k o hg with h3 | ⟨_,_,_,h3⟩
    ·rw[h3]at hk;cases hk
    ·rw[h3]at hk;cases hk
  unfold UL at h1c;split at h1c
  ·rename_i c hopi;split at h1c
   ·rename_i f hcal;simp only[Bool.and_eq_true,Bool.not_eq_true']at h1c;have hfn:∀ {f' as},callA s oi=some (f',as)→f'=f∧as=c.args.toList.map (evX s):=fun hc=>by
     simp only[callA,hopi,hcal,Option.some.injEq,Prod.mk.injEq]at hc;exact⟨hc.1.symm,hc.2.symm⟩
    have later:∀ {nx J},(∀k,nx≤k∧k-nx<J.length→G k=Option.none)→Eff P ops oj s (addJ G nx J) u (addJ (bT G x) nx J):=fun {nx J} hn=>by
     obtain⟨m,hm⟩:=zF (nx:=nx) (J:=J) hf;have:=hx (addJ G nx J) m (MG hn hy);rw[PO hn hy]at this;exact .op hwj hmj (hm m (Nat.le_refl _)) this
    cases e2' with
    | off hw=>exact fin (.off hw) (.op hwj hmj hnj hej)
    | pure hw hm=>rw[mpi]at hm;cases hm
    | op hw hm hn he=>
     unfold evC at he;rw[hopi]at he;simp only[hcal]at he;cases he
    | @call G' f' as ts r J nx hw hc' ha hn hk=>
     obtain⟨rfl,rfl⟩:=hfn hc';obtain⟨rfl,r2⟩:=GZ h1c.2 ha;have hn':∀k,nx≤k∧k-nx<J.length→G k=Option.none:=fun k hk=>hback (hn k hk);exact fin (.call hw hc' (r2 G) hn' hk) (later hn')
    | @keep f' as ts r J nx hw hc' ha hn hk hkeep=>
     obtain⟨rfl,rfl⟩:=hfn hc';have hn':∀k,nx≤k∧k-nx<J.length→G k=Option.none:=fun k hk=>hback (hn k hk);exact fin (.keep hw hc' (Gz h1c.2 ha G) hn' hk hkeep) (later hn')
    | inl hw hc' hne=>
     obtain⟨rfl,rfl⟩:=hfn hc';rw[hne.2]at h1c;cases h1c.1
   ·cases h1c
  ·cases h1c
theorem QB {p:Option Tmp} {qs:List Tmp} (hr:uf ops=false) (hfix:U0 ops p=true∧qs.all (UC ops)=true) {i:Nat} {oi:Oper} (hi:ops[i]? =some oi):∀(pre:List Nat) {post:List Nat} {s:Sl} {G:Hp},Fin G→wX s p qs→(kG ops oi=0∨∀x∈oi.op.operands,∀id,mJ (evX s x)=some id→∃o,G id=some o)→(oJ oi=true→∀x∈oi.op.operands,∀c∈(evX s x).cells,∀id n,c=.row id n→∃o,G id=some o)→
  (∀j∈pre,∃oj,ops[j]? =some oj∧oj.apart ops oi=true∧(compat ops oj oi=true∨(∃p',p=some p'∧Dc oi p'=true∧Sr qs oj=true)∨(Hr oi=true∧JA P oj=true)∨(oJ oi=true∧oJ oj=true)∨(∃p',p=some p'∧Tv oi=true∧LX oj p'=true)∨((Lh P oi=true∧kG ops oj=1)∨(Lh P oj=true∧(kG ops oi=1∨UL P oi=true)))))→Runs P N ops (pre++i::post) s G s' G'→Runs P N ops (i::(pre++post)) s G s' G'
 | [],post,s,G,_,_,_,_,_,h=>h
 | j::pre,post,s,G,hf,hS,hK,hC,hp,h=>by
  rw[List.cons_append]at h;cases h with
  | @cons _ _ _ s1 _ _ G1 _ h1 hr'=>
   obtain⟨oj,hj,hap,hc⟩:=hp j (by simp);obtain⟨hd1,u,hs1,e1⟩:=(dG hj).1 h1;have hS1:wX s1 p qs:=by
    subst hs1;exact hS.put (fun p' hp'=>qL (Df hfix.1 p' hp') hj) fun q hq=>qL (List.all_eq_true.1 hfix.2 q hq) hj
   have cj0:kG ops oi=0∨Grows G G1:=by
    rcases hc with hc | ⟨_,_,_,hc⟩ | hc | hc | ⟨_,_,_,hc⟩ | hc
    ·simp only[compat,Bool.or_eq_true,Bool.and_eq_true,beq_iff_eq]at hc;by_cases c0:kG ops oi=0
     ·exact .inl c0
     ·exact .inr (e1.grows (by omega))
    ·exact .inr (e1.grows (RX hr hc))
    ·exact .inr (e1.grows (OO hr hc.2))
    ·exact .inr (e1.grows (Py hr hc.2))
    ·exact .inr (e1.grows (by have:=(Gn hr hc).1;omega))
    ·rcases hc with hc | hc
     ·exact .inr (e1.grows (by omega))
     ·exact .inr (vJ hr hc.1 e1)
   have hK1:kG ops oi=0∨∀x∈oi.op.operands,∀id,mJ (evX s1 x)=some id→∃o,G1 id=some o:=by
    by_cases c0:kG ops oi=0
    ·exact .inl c0
    ·refine .inr fun x hx id hr'=> ?_;subst hs1;have sm:Same ops oi s (s.put oj.dst u):=eP (Oper.apart_spec hap).1;rw[sm.1 x hx]at hr';obtain⟨o,ho⟩:=hK.resolve_left c0 x hx id hr';rcases cj0.resolve_left c0 id o ho with h2 | ⟨_,_,_,h2⟩
     ·exact⟨_,h2⟩
     ·exact⟨_,h2⟩
   have hC1:oJ oi=true→∀x∈oi.op.operands,∀c∈(evX s1 x).cells,∀id n,c=.row id n→∃o,G1 id=some o:=fun hmo x hx c hcx id n he=>by
    subst hs1;have sm:Same ops oi s (s.put oj.dst u):=eP (Oper.apart_spec hap).1;rw[sm.1 x hx]at hcx;obtain⟨o,ho⟩:=hC hmo x hx c hcx id n he;rcases cj0.resolve_left (SA hr hmo) id o ho with h2 | ⟨_,_,_,h2⟩
    ·exact⟨_,h2⟩
    ·exact⟨_,h2⟩
   have ih:=QB hr hfix hi pre (e1.fin hf) hS1 hK1 hC1 (fun j' hj'=>hp j' (by simp[hj'])) hr';cases ih with
   | cons h2 hr2=>
    rcases hc with hc | ⟨p',rfl,hc⟩ | hc | hc | ⟨p',rfl,hc⟩ | hc
    ·obtain⟨s1',G1',x1,x2⟩:=swap hi hj hap hc hf hK h1 h2;exact .cons x1 (.cons x2 hr2)
    ·have c3:kG ops oi≠0:=PN hr hc.1;obtain⟨s1',G1',x1,x2⟩:=U7 hr hi hj hap hc.1 hc.2 hS hf (hK.resolve_left c3) h1 h2;exact .cons x1 (.cons x2 hr2)
    ·obtain⟨s1',G1',x1,x2⟩:=Vj hr hi hj hap hc.1 hc.2 hf h1 h2;exact .cons x1 (.cons x2 hr2)
    ·obtain⟨s1',G1',x1,x2⟩:=Vm hr hi hj hap hc.1 hc.2 (hC hc.1) h1 h2;exact .cons x1 (.cons x2 hr2)
    ·obtain⟨s1',G1',x1,x2⟩:=Vf hr hi hj hap hc.1 hc.2 hS hf h1 h2;exact .cons x1 (.cons x2 hr2)
    ·obtain⟨s1',G1',x1,x2⟩:=Vt hr hi hj hap hc hf hK h1 h2;exact .cons x1 (.cons x2 hr2)
theorem Rx {p:Option Tmp} {qs:List Tmp} {r:Option Nat} {n:Nat} {Q:Exit→Act→World→Prop} (hok:vT P ops p qs=true) (hQ:∀a' w' E',RelAt P N E1 w1 s' G' a' w' E'→Q .normal a' w'):∀(fuel:Nat) (L:Array Bool) {s:Sl} {G:Hp} {a:Act} {w:World} {E:En},wX s p qs→L.size=ops.size→Closed ops (fun i=>L.getD i false=true)→
  fuel=((List.range ops.size).filter fun i=> !L.getD i true).length→Runs P N ops ((List.range ops.size).filter fun i=> !L.getD i true) s G s' G'→Fin G→RelAt P N E1 w1 s G a w E→wpAnyIn (FW r) n P .any ops Q fuel L a w:=by
 simp only[vT,Bool.and_eq_true,Bool.not_eq_true']at hok;obtain⟨⟨⟨hreg,hfx1⟩,hfx2⟩,hok⟩:=hok;simp only[List.all_eq_true,Bool.and_eq_true,List.mem_range]at hok;intro fuel;induction fuel with
 | zero=>
  intro L s G a w E hS hsz hcl hl hr hf h;have hnil:=List.eq_nil_of_length_eq_zero hl.symm;rw[hnil]at hr;refine⟨?_,?_⟩
  ·rw[List.eq_nil_iff_forall_not_mem];intro j hj;obtain⟨h1,o,ho,_⟩:=mem_ready.1 hj;have:j∈(List.range ops.size).filter fun i=> !L.getD i true:=List.mem_filter.2 ⟨List.mem_range.2 (Array.getElem?_eq_some_iff.1 ho).1,by simp[h1]⟩;rw[hnil]at this;simp at this
  ·cases hr;exact hQ _ _ _ h
 | succ fuel ih=>
  intro L s G a w E hS hsz hcl hl hr hf h;refine⟨fun hnr=> ?_,fun i hir=> ?_⟩
  ·exfalso;cases hR:(List.range ops.size).filter fun i=> !L.getD i true with
   | nil=>rw[hR]at hl;simp at hl
   | cons i R=>
    have hi:i∈(List.range ops.size).filter fun i=> !L.getD i true:=(by rw[hR];simp);obtain⟨hi1,hi2⟩:=List.mem_filter.1 hi;rw[List.mem_range]at hi1;have:i∈Region.ready .any ops L:=by
     refine mem_ready.2 ⟨by simpa using hi2,_,Array.getElem?_eq_getElem hi1,fun e he hb=> ?_⟩;have hbk:=(hok i hi1).1;simp only[Qa,Array.getElem?_eq_getElem hi1,List.all_eq_true,Bool.or_eq_true,Bool.not_eq_true',decide_eq_true_eq]at hbk;have hlt:=(hbk e (by simpa using he)).resolve_left (by simp[hb]);have hle:L.getD e.on true=true:=by
      cases hc:L.getD e.on true with
      | true=>rfl
      | false=>
       exfalso;have hmem:e.on∈(List.range ops.size).filter fun i=> !L.getD i true:=List.mem_filter.2 ⟨List.mem_range.2 (by omega),by simp[hc]⟩;have hsort:((List.range ops.size).filter fun i=> !L.getD i true).Pairwise (· < ·):=List.Pairwise.filter _ List.pairwise_lt_range;rw[hR]at hmem hsort;rcases List.mem_cons.1 hmem with h1 | h1
       ·omega
       ·have:=(List.pairwise_cons.1 hsort).1 _ h1;omega
     have hlt2:e.on<L.size:=(by omega);simpa [Array.getD_eq_getD_getElem?,hlt2]using hle
    rw[hnr]at this;simp at this
  ·obtain⟨hi1,oi,hi,hpre⟩:=mem_ready.1 hir;have hin:i<ops.size:=(Array.getElem?_eq_some_iff.1 hi).1;have hmem:i∈(List.range ops.size).filter fun i=> !L.getD i true:=List.mem_filter.2 ⟨List.mem_range.2 hin,by simp[hi1]⟩;obtain⟨pre,post,hR⟩:=List.append_of_mem hmem;have hsort:((List.range ops.size).filter fun i=> !L.getD i true).Pairwise (· < ·):=List.Pairwise.filter _ List.pairwise_lt_range;have hprelt:∀j∈pre,j<i:=fun j hj=>by
    rw[hR]at hsort;exact(List.pairwise_append.1 hsort).2.2 j hj i (by simp)
   rw[hR]at hr;have hfr:=QB hreg ⟨hfx1,hfx2⟩ hi pre hf hS (.inr fun x _ id hr'=>h.roots x id hr') (fun _ x _ c hc id n he=>h.TI x c hc id n he) (fun j hj=>by
    have hjm:j∈(List.range ops.size).filter fun i=> !L.getD i true:=(by rw[hR];simp[hj]);obtain⟨hj1,hj2⟩:=List.mem_filter.1 hjm;rw[List.mem_range]at hj1;refine⟨_,Array.getElem?_eq_getElem hj1,?_⟩;have hp:=(hok i hin).2 j (by simpa using hprelt j hj);simp only[Hy,CU,Gi,Bool.or_eq_true,hi,Array.getElem?_eq_getElem hj1,Bool.and_eq_true]at hp;rcases hp with(hp | hp) | hp | hp | hp | hp | hp
    ·exfalso;have:=yc hcl i hi (fun e he hb=>hpre e (by simpa using he) hb) j hp;have hlt2:j<L.size:=(by omega);simp[Array.getD_eq_getD_getElem?,hlt2]at this hj2;rw[this]at hj2;cases hj2
    ·exact⟨hp.1,.inl hp.2⟩
    ·cases p with
     | none=>simp[Ac]at hp
     | some p=>
      simp only[Ac,hi,Array.getElem?_eq_getElem hj1,Bool.and_eq_true]at hp;exact⟨hp.1.1,.inr (.inl ⟨p,rfl,hp.1.2,hp.2⟩)⟩
    ·exact⟨hp.1.1,.inr (.inr (.inl ⟨hp.1.2,hp.2⟩))⟩
    ·exact⟨hp.1.1,.inr (.inr (.inr (.inl ⟨hp.1.2,hp.2⟩)))⟩
    ·cases p with
     | none=>simp[ER]at hp
     | some p=>
      simp only[ER,hi,Array.getElem?_eq_getElem hj1,Bool.and_eq_true]at hp;exact⟨hp.1.1,.inr (.inr (.inr (.inr (.inl ⟨p,rfl,hp.1.2,hp.2⟩))))⟩
    ·simp only[J4,hi,Array.getElem?_eq_getElem hj1,Bool.and_eq_true,Bool.or_eq_true,beq_iff_eq]at hp;exact⟨hp.1,.inr (.inr (.inr (.inr (.inr hp.2))))⟩) hr
   cases hfr with
   | @cons _ _ _ s1 _ _ G1 _ h1 hr2=>
    have hf1:Fin G1:=by
     obtain⟨_,u,_,e1⟩:=(dG hi).1 h1;exact e1.fin hf
    refine lK h1 h fun a' w' E' h'=> ?_;have hpp:pre++post=(List.range ops.size).filter fun j=> !(L.setIfInBounds i true).getD j true:=by
     have e1:((List.range ops.size).filter fun j=> !(L.setIfInBounds i true).getD j true)=((List.range ops.size).filter fun i=> !L.getD i true).filter fun j=>decide (j≠i):=by
      rw[List.filter_filter];refine List.filter_congr fun j hj=> ?_;rw[List.mem_range]at hj;rw[uX];by_cases hij:i=j
      ·subst hij;have:i<L.size:=(by omega);simp[this]
      ·have hji:¬j=i:=fun e=>hij e.symm;simp[hij,hji]
     rw[e1,hR,List.filter_append,List.filter_cons];have q1:pre.filter (fun j=>decide (j≠i))=pre:=List.filter_eq_self.2 fun j hj=>(by have:=hprelt j hj;simp;omega);have q2:post.filter (fun j=>decide (j≠i))=post:=List.filter_eq_self.2 fun j hj=>by
      rw[hR]at hsort;have:=(List.pairwise_cons.1 (List.pairwise_append.1 hsort).2.1).1 j hj;simp;omega
     rw[q1,q2,if_neg (by simp)]
    refine ih _ (by obtain⟨_,u,e0,_⟩:=(dG hi).1 h1;rw[e0];exact hS.put (fun p' hp'=>qL (Df hfx1 p' hp') hi) fun q hq=>qL (List.all_eq_true.1 hfx2 q hq) hi) (by simp[hsz]) (fun j o hj ho e he hb=> ?_) ?_ (by rw[←hpp];exact hr2) hf1 h'
    ·simp only[uX]at hj⊢;split
     ·rfl
     ·split at hj
      ·rename_i h2;obtain⟨rfl,_⟩:=h2;rw[hi]at ho;injection ho with ho;subst ho;exact hpre e (by simpa using he) hb
      ·exact hcl j o hj ho e he hb
    ·rw[←hpp];rw[hR]at hl;simp at hl⊢;omega
theorem KR {p:Option Tmp} {qs:List Tmp} {r:Option Nat} {n:Nat} {Q:Exit→Act→World→Prop} {id:Nat} (hm:P.follows .mixedOrders=true) (hok:vT P ops p qs=true) (hS:wX s p qs) (hr:Runs P N ops (List.range ops.size) s G s' G') (hf:Fin G) (h:RelAt P N E1 w1 s G a w E) (hQ:∀a' w' E',RelAt P N E1 w1 s' G' a' w' E'→Q .normal a' w'):(Code.region id ops true).wpIn (FW r) n P Q a w:=by
 have hb:Below w.heap.size w {w with drawn:=w.drawn+1} :=⟨rfl,rfl,rfl,Nat.le_refl _,fun _ _=>rfl⟩;obtain⟨hR,he⟩:=h.rel.below hb;have h':RelAt P N E1 w1 s G a {w with drawn:=w.drawn+1} E:=⟨fun t=>(h.slots t).ext he (En.Le.refl _ _),hR,h.ext.trans he (fun b hb hW=>h.le.W b hb hW),h.le,h.defers.ext he (fun _ _ h=>h),h.size⟩;have hall:((List.range ops.size).filter fun i=> !(Array.replicate ops.size false).getD i true)=List.range ops.size:=List.filter_eq_self.2 fun i hi=>by
  rw[List.mem_range]at hi;simp[Array.getD_eq_getD_getElem?,hi]
 refine wpIn_region_any hm (Rx hok hQ ops.size _ hS (by simp) (fun i o hi=> ?_) (by rw[hall];simp) (by rw[hall];exact hr) hf h');simp[Array.getD_eq_getD_getElem?,Array.getElem?_replicate]at hi;split at hi<;>simp at hi
end
abbrev KS:=Sl→Hp→Nat→Prop
def bU (G:Hp) (nx:Nat):Prop:=∀i,nx≤i→G i=none
def E5 (P:Program) [Gl P] (E:En) (w:World) (K:AV→Hp→Nat→Prop) (e:Ending) (w':World):Prop:=
 ∃u v E' G' nx',e=.returned u∧VR P E' w' v u∧Rel P E' w' G'∧bU G' nx'∧Ext E.W w w'∧En.Le w E E'∧K v G' nx'
def L9 (P:Program) [Gl P] (f:FuncId) (as:List AV) (K:AV→Hp→Nat→Prop) (G:Hp) (nx:Nat):Prop:=
 (∀args w,(callFunc f args).run P w=.ok (.enter f args) w)∧∀(E:En) (w:World) (us:List Value),Rel P E w G→bU G nx→All2 (VR P E w) as us→Calls P f us.toArray w (E5 P E w K)
def DT (P:Program) [Gl P] (id:Nat) (as:List AV) (K:AV→Hp→Nat→Prop) (G:Hp) (nx:Nat):Prop:=
 ∀(E:En) (w:World) (us:List Value) (b:Nat),Rel P E w G→bU G nx→E.φ id=some b→All2 (VR P E w) as us→
  ∃fn tmps assign body,(Instr.yield b us.toArray).run P w=.ok (.round b fn tmps assign body) w∧∀n,RoundIn (FW none) n P b fn tmps assign body w (E5 P E w K)
def UG (s:Sl) (o:Oper):Option (Nat×List AV):=
 match o.op with
 | .call c=>match c.callee with
  | .value (.tmp t)=>match s t with
   | .yl id=>some (id,c.args.toList.map (evX s))
   | _=>none
  | _=>none
 | _=>none
def VU (G:Hp) (id:Nat):Prop:=∃st pd s N ps a b,G id=some (.lp st pd s N ps a b)
def oW (P:Program) [Gl P] (d:Bool) (f:FuncId) (as:List AV) (cls:Nat) (K:AV→Hp→Nat→Prop) (G:Hp) (nx:Nat):Prop:=
 (∃ts r J,seesA P G as=some ts∧CallsOK P f ts r J∧(flatR r=true∧flatJ J=true)∧K (shiftT nx r) (addJ G nx J) (nx+J.length))∨
 (∃ts G1 r J,argsOf P G as=some (ts,G1)∧CallsOK P f ts r J∧K (shiftT nx r) (addJ G1 nx J) (nx+J.length))∨
 ((as≠[]∧Gl.inl P f=true)∧∃v G' nx',(bU G nx→InlOK P f as G v G'∧(cls=3∨Grows G G')∧bU G' nx')∧K v G' nx')∨
 (d=false∧L9 P f as K G nx)
def uq (K:KS) (s:Sl) (d:Option Tmp):AV→Hp→Nat→Prop:=fun v G' nx'=>K (s.put d v) G' nx'
def xG (P:Program) [Gl P] (N:Nat) (ops:Array Oper) (d:Bool) (o:Oper) (K:KS) (s:Sl) (G:Hp) (nx:Nat):Prop:=
 dstOK N o=true∧match wantA ops o s with
 | some true=>(match callA s o with
    | some (f,as)=>oW P d f as (clsOf o) (uq K s o.dst) G nx
    | none=>match UG s o with
    | some (id,as)=>d=false∧VU G id∧DT P id as (uq K s o.dst) G nx
    | none=>match evC P s G nx o with
     | some (v,G',nx')=>K (s.put o.dst v) G' nx'
     | none=>False)
 | some false=>K (s.put o.dst .und) G nx
 | none=>False
def uQ (P:Program) [Gl P] (N:Nat) (ops:Array Oper) (d:Bool):List Oper→KS→KS
 | [],K=>K
 | o::os,K=>xG P N ops d o (uQ P N ops d os K)
def kJ (P:Program) [Gl P] (N:Nat) (ops:Array Oper) (d:Bool) (o:Oper) (K:KS) (s:Sl) (G:Hp) (nx:Nat):Prop:=
 if mustPure ops o=true then dstOK N o=true∧match wantA ops o s with
  | some true=>(match pureA P s o with
   | some v=>K (s.put o.dst v) G nx
   | none=>False)
  | some false=>K (s.put o.dst .und) G nx
  | none=>False
 else xG P N ops d o K s G nx
def qK (P:Program) [Gl P] (N:Nat) (ops:Array Oper) (d:Bool):List Oper→KS→KS
 | [],K=>K
 | o::os,K=>kJ P N ops d o (qK P N ops d os K)
theorem uz {P:Program} [Gl P] {N:Nat} {ops:Array Oper} {d:Bool} (hr:uf ops=false):∀(os:List Oper) (K:KS),qK P N ops d os K=uQ P N ops d os K
 | [],K=>rfl
 | o::os,K=>by
  have hm:mustPure ops o=false:=(by simp[mustPure,hr]);show kJ P N ops d o (qK P N ops d os K)=xG P N ops d o (uQ P N ops d os K);rw[uz hr os K];funext s G nx;simp[kJ,hm]
def Ur (P:Program) [Gl P] (N:Nat) (g:Operand) (ps:Array Tmp) (assign body:Code) (K:Exit→KS):KS:=fun s G nx=>
 ∀(n:Nat) (E1:En) (w1:World) (a:Act) (w:World) (E:En) (Q:Exit→Act→World→Prop),RelAt P N E1 w1 s G a w E→bU G nx→
  (∀e s' G' nx' a' w' E',K e s' G' nx'→bU G' nx'→RelAt P N E1 w1 s' G' a' w' E'→Q e a' w')→(Code.rangeFunc g ps assign body).wpIn (FW none) n P Q a w
def UY (P:Program) [Gl P] (N:Nat) (c:Code) (K:Exit→KS):KS:=fun s G nx=>
 ∀(n:Nat) (E1:En) (w1:World) (a:Act) (w:World) (E:En) (Q:Exit→Act→World→Prop),RelAt P N E1 w1 s G a w E→bU G nx→
  (∀e s' G' nx' a' w' E',K e s' G' nx'→bU G' nx'→RelAt P N E1 w1 s' G' a' w' E'→Q e a' w')→(Code.scope c).wpIn (FW none) n P Q a w
def kE:Code→Bool
 | .seq a b=>kE a&&kE b
 | .cond _ a b=>kE a&&kE b
 | .block _ a=>kE a
 | .loop a=>kE a
 | .rangeFunc .. =>false
 | .scope _=>false
 | _=>true
def Qv (P:Program) [Gl P] (ops:Array Oper) (s:Sl):Prop:=tY ops=true∨∃p qs,vT P ops p qs=true∧wX s p qs
def AW (P:Program) [Gl P] (N:Nat):Code→(Exit→KS)→KS
 | .skip,K=>K .normal
 | .label _,K=>K .normal
 | .region _ ops d,K=>fun s G nx=>(d=true→Qv P ops s)∧qK P N ops d ops.toList (K .normal) s G nx
 | .seq a b,K=>AW P N a (fun e=>match e with
   | .normal=>AW P N b K
   | e=>K e)
 | .cond c a b,K=>fun s G nx=>(∃t,evX s c=.v (.bool t)∧(if t=true then AW P N a K s G nx else AW P N b K s G nx))∨(evX s c=.bl∧AW P N a K s G nx∧AW P N b K s G nx)
 | .block id a,K=>AW P N a (fun e=>match e with
   | .exit id'=>if id'=id then K .normal else K (.exit id')
   | e=>K e)
 | .loop a,K=>fun s G nx=>∃(I:KS) (μ:Sl→Hp→Nat→Nat),I s G nx∧∀s G nx,bU G nx→I s G nx→AW P N a (fun e s' G' nx'=>match e with
   | .normal=>I s' G' nx'∧μ s' G' nx'<μ s G nx
   | e=>K e s' G' nx') s G nx
 | .exit id,K=>K (.exit id)
 | .goto l,K=>K (.goto l)
 | .ret,K=>K .ret
 | .rangeFunc g ps assign body,K=>Ur P N g ps assign body K
 | .scope a,K=>fun s G nx=>AW P N a (fun e=>match e with
   | .goto _=>fun _ _ _=>False
   | e=>K e) s G nx∨UY P N a K s G nx
 | _,_=>fun _ _ _=>False
section
variable {P:Program} [Gl P] {N:Nat} {ops:Array Oper} {s s':Sl} {G G':Hp} {nx:Nat} {E1:En} {w1 w:World} {a:Act} {E:En}
theorem bU.fin (h:bU G nx):Fin G:=⟨nx,h⟩
theorem nT {J:Js} (h:bU G nx):bU (addJ G nx J) (nx+J.length):=fun i hi=>by
 show(if nx≤i∧i-nx<J.length then ofJ J (i-nx)else G i)=none;rw[if_neg (by omega)];exact h i (by omega)
theorem Jz {i:Nat} {o:Oper} {K:KS} (hi:ops[i]? =some o) (hf:bU G nx) (h:kJ P N ops true o K s G nx):∃s' G' nx',Step P N ops i s G s' G'∧K s' G' nx'∧bU G' nx':=by
 unfold kJ at h;split at h
 ·rename_i hm;obtain⟨hd,h⟩:=h;split at h
  ·rename_i hw;split at h
   ·rename_i v hp;exact⟨_,_,_,.pure hi hd hw hm hp,h,hf⟩
   ·exact h.elim
  ·rename_i hw;exact⟨_,_,_,.off hi hd hw,h,hf⟩
  ·exact h.elim
 rename_i hm;have hm:mustPure ops o=false:=(by simpa using hm);obtain⟨hd,h⟩:=h;split at h
 ·rename_i hw;split at h
  ·rename_i f as hc;rcases h with⟨ts,r,J,ha,hk,h1,h⟩ | ⟨ts,G1,r,J,ha,hk,h⟩ | ⟨hne,v,G',nx',hk,h⟩ | ⟨h,_⟩
   ·exact⟨_,_,_,.keep hi hd hw hc ha (fun j hj=>hf j hj.1) hk h1,h,nT hf⟩
   ·have hf1:bU G1 nx:=fun i hi=>lG ha (hf i hi);exact⟨_,_,_,.call hi hd hw hc ha (fun j hj=>hf j hj.1) hk,h,nT hf1⟩
   ·obtain⟨hk,hg,hfr⟩:=hk hf;exact⟨_,_,_,.inl hi hd hw hc hne hk hg (fun _=>hfr.fin),h,hfr⟩
   ·cases h
  ·split at h
   ·cases h.1
   ·split at h
    ·rename_i v G' nx' he;refine⟨_,_,_,.op hi hd hw hm (hf nx (Nat.le_refl _)) he,h,?_⟩;rcases zA he with⟨rfl,h2⟩ | ⟨rfl,h2⟩
     ·exact fun i hi=>h2 i (hf i hi)
     ·exact fun i hi=>h2 i (by omega) (hf i (by omega))
    ·exact h.elim
 ·rename_i hw;exact⟨_,_,_,.off hi hd hw,h,hf⟩
 ·exact h.elim
theorem A8 {K:KS} :∀(os:List Oper) (k:Nat) {s:Sl} {G:Hp} {nx:Nat},os=ops.toList.drop k→bU G nx→qK P N ops true os K s G nx→∃s' G' nx',Runs P N ops (List.range' k os.length) s G s' G'∧K s' G' nx'∧bU G' nx'
 | [],k,s,G,nx,_,hf,h=>⟨_,_,_,.nil,h,hf⟩
 | o::os,k,s,G,nx,hk,hf,h=>by
  have hi:ops[k]? =some o:=by
   have:(ops.toList.drop k)[0]? =some o:=(by rw[←hk];rfl);rw[List.getElem?_drop]at this;simpa using this
  have hk2:os=ops.toList.drop (k+1):=by
   have:(ops.toList.drop k).tail=os:=(by rw[←hk];rfl);rw[←this,List.tail_drop]
  obtain⟨s1,G1,nx1,h1,h2,hf1⟩:=Jz hi hf h;obtain⟨s2,G2,nx2,h3,h4,hf2⟩:=A8 os (k+1) hk2 hf1 h2;exact⟨s2,G2,nx2,.cons h1 h3,h4,hf2⟩
theorem Pg {o:Oper} {id:Nat} {as:List AV} (hx:∀t,VR P E w (s t) (a.tmps.getD t undef)) (h:UG s o=some (id,as)) {b:Nat} (hb:E.φ id=some b):
  (∀c,o.op≠ .defer c)∧∃us:List Value,All2 (VR P E w) as us∧(execOp a.eval o).run P w=(Instr.yield b us.toArray).run P w:=by
 unfold UG at h;split at h
 ·rename_i c hop;have e:(c.args.map a.eval)=(c.args.toList.map a.eval).toArray:=(by simp[←Array.toList_inj]);split at h
  ·rename_i t hc;split at h
   ·rename_i id' ht;simp only[Option.some.injEq,Prod.mk.injEq]at h;obtain⟨rfl,rfl⟩:=h;have h1:=hx t;rw[ht]at h1;have hu:=h1.TT hb;refine⟨fun c' hc'=>(by rw[hop]at hc';cases hc'),c.args.toList.map a.eval,UR hx,?_⟩;simp[execOp,hop,resolve,hc,Act.eval,hu,Deferred.ofValue,invoke];exact congrArg (fun x=>(Instr.yield b x).run P w) e
   ·cases h
  ·cases h
 ·cases h
theorem Ot {r:Option Nat} {n:Nat} {i:Nat} {o:Oper} {K:KS} {Q:Exit→Act→World→Prop} {Kw:Act→World→Prop} (hi:ops[i]? =some o) (hf:bU G nx) (h:kJ P N ops false o K s G nx) (hr:RelAt P N E1 w1 s G a w E)
  (hK:∀s' G' nx' a' w' E',K s' G' nx'→bU G' nx'→RelAt P N E1 w1 s' G' a' w' E'→Kw a' w'):wpOpIn (FW r) n P ops Q i Kw a w:=by
 unfold kJ at h;split at h
 ·rename_i hm;obtain⟨hd,h⟩:=h;split at h
  ·rename_i hw;split at h
   ·rename_i v hp;exact lK (.pure hi hd hw hm hp) hr fun a' w' E' h'=>hK _ _ _ _ _ _ h hf h'
   ·exact h.elim
  ·rename_i hw;exact lK (.off hi hd hw) hr fun a' w' E' h'=>hK _ _ _ _ _ _ h hf h'
  ·exact h.elim
 rename_i hm;have hm:mustPure ops o=false:=(by simpa using hm);obtain⟨hd,h⟩:=h;split at h
 ·rename_i hw;split at h
  ·rename_i f as hc;rcases h with⟨ts,r,J,ha,hk,h1,h⟩ | ⟨ts,G1,r,J,ha,hk,h⟩ | ⟨hne,v,G',nx',hk,h⟩ | ⟨_,hk⟩
   ·exact lK (.keep hi hd hw hc ha (fun j hj=>hf j hj.1) hk h1) hr fun a' w' E' h'=>hK _ _ _ _ _ _ h (nT hf) h'
   ·have hf1:bU G1 nx:=fun i hi=>lG ha (hf i hi);exact lK (.call hi hd hw hc ha (fun j hj=>hf j hj.1) hk) hr fun a' w' E' h'=>hK _ _ _ _ _ _ h (nT hf1) h'
   ·obtain⟨hk,hg,hfr⟩:=hk hf;exact lK (.inl hi hd hw hc hne hk hg (fun _=>hfr.fin)) hr fun a' w' E' h'=>hK _ _ _ _ _ _ h hfr h'
   ·unfold wpOpIn;rw[hi];simp only[iW hr hw,if_true];refine⟨fun _ _=>trivial,?_⟩;rw[Oper.semAt_eq _ _ _ (lM hc)];obtain⟨us,hus,hrun⟩:=qE hr.slots hc;rw[hrun hk.1];refine⟨oG,zo ((hk.2 E w us hr.rel hf hus).mono fun e w1 h1=> ?_)⟩;obtain⟨u,v,E1,G1,nx1,rfl,hv,hR1,hf1,he1,hle1,hk1⟩:=h1;exact hK _ _ _ _ _ _ hk1 hf1 (hr.put hd hv hR1 he1 hle1)
  ·split at h
   ·rename_i id as hy;obtain⟨_,⟨st,pd,s0,N0,ps,as0,bd,hG⟩,hk⟩:=h;obtain⟨b,hb,_⟩:=hr.rel.FY hG rfl (fun e he=>by cases he);obtain⟨hnd,us,hus,hrun⟩:=Pg hr.slots hy hb;unfold wpOpIn;rw[hi];simp only[iW hr hw,if_true];refine⟨fun _ _=>trivial,?_⟩;rw[Oper.semAt_eq _ _ _ hnd,hrun];obtain⟨fn,tmps,assign,body,hy1,hy2⟩:=hk E w us b hr.rel hf hb hus;rw[hy1];refine⟨oG,RoundIn.mono (hy2 _) fun e w1 h1=> ?_⟩;obtain⟨u,v,E1,G1,nx1,rfl,hv,hR1,hf1,he1,hle1,hk1⟩:=h1;exact hK _ _ _ _ _ _ hk1 hf1 (hr.put hd hv hR1 he1 hle1)
   ·split at h
    ·rename_i v G' nx' he;refine lK (.op hi hd hw hm (hf nx (Nat.le_refl _)) he) hr fun a' w' E' h'=>hK _ _ _ _ _ _ h ?_ h';rcases zA he with⟨rfl,h2⟩ | ⟨rfl,h2⟩
     ·exact fun i hi=>h2 i (hf i hi)
     ·exact fun i hi=>h2 i (by omega) (hf i (by omega))
    ·exact h.elim
 ·rename_i hw;exact lK (.off hi hd hw) hr fun a' w' E' h'=>hK _ _ _ _ _ _ h hf h'
 ·exact h.elim
theorem Kt {r:Option Nat} {n:Nat} {K:KS} {Q:Exit→Act→World→Prop} (hQ:∀s' G' nx' a' w' E',K s' G' nx'→bU G' nx'→RelAt P N E1 w1 s' G' a' w' E'→Q .normal a' w'):∀(os:List Oper) (k:Nat) {s:Sl} {G:Hp} {nx:Nat} {a:Act} {w:World} {E:En},os=ops.toList.drop k→bU G nx→qK P N ops false os K s G nx→RelAt P N E1 w1 s G a w E→wpOpsIn (FW r) n P ops Q (List.range' k os.length) a w
 | [],k,s,G,nx,a,w,E,_,hf,h,hr=>hQ _ _ _ _ _ _ h hf hr
 | o::os,k,s,G,nx,a,w,E,hk,hf,h,hr=>by
  have hi:ops[k]? =some o:=by
   have:(ops.toList.drop k)[0]? =some o:=(by rw[←hk];rfl);rw[List.getElem?_drop]at this;simpa using this
  have hk2:os=ops.toList.drop (k+1):=by
   have:(ops.toList.drop k).tail=os:=(by rw[←hk];rfl);rw[←this,List.tail_drop]
  show wpOpsIn (FW r) n P ops Q (k::List.range' (k+1) os.length) a w;rw[wpOpsIn_cons];exact Ot hi hf h hr fun s' G' nx' a' w' E' h1 h2 h3=>Kt hQ os (k+1) hk2 h2 h1 h3
theorem J5 {r:Option Nat} {n:Nat} {id:Nat} {d:Bool} {K:KS} {Q:Exit→Act→World→Prop} (hm:P.follows .mixedOrders=true) (hd:d=true→Qv P ops s) (h:qK P N ops d ops.toList K s G nx) (hf:bU G nx) (hr:RelAt P N E1 w1 s G a w E)
  (hQ:∀s' G' nx' a' w' E',K s' G' nx'→bU G' nx'→RelAt P N E1 w1 s' G' a' w' E'→Q .normal a' w'):(Code.region id ops d).wpIn (FW r) n P Q a w:=by
 cases d with
 | false=>
  have:=Kt (r:=r) (n:=n) hQ ops.toList 0 (by simp) hf h hr;refine wpIn_region ?_;rw[List.range_eq_range'];simpa using this
 | true=>
  obtain⟨s',G',nx',h1,h2,hf'⟩:=A8 ops.toList 0 (by simp) hf h;have h1':Runs P N ops (List.range ops.size) s G s' G':=by
   rw[List.range_eq_range'];simpa using h1
  rcases hd rfl with hd | ⟨p,qs,hd,hS⟩
  ·exact Oz hm hd h1' hf.fin hr fun a' w' E' h'=>hQ _ _ _ _ _ _ h2 hf' h'
  ·exact KR hm hd hS h1' hf.fin hr fun a' w' E' h'=>hQ _ _ _ _ _ _ h2 hf' h'
theorem Jh {p:Nat→Prop} (h:∃n,p n):∃n,p n∧∀m,p m→n≤m:=by
 obtain⟨n,hn⟩:=h;induction n using Nat.strongRecOn with
 | _ n ih=>
  by_cases hx:∃m,m<n∧p m
  ·obtain⟨m,hm,hp⟩:=hx;exact ih m hm hp
  ·exact⟨n,hn,fun m hm=>by
    rcases Nat.lt_or_ge m n with h1 | h1
    ·exact absurd ⟨m,h1,hm⟩ hx
    ·exact h1⟩
theorem lN {r:Option Nat} {n:Nat} (hm:P.follows .mixedOrders=true):∀(c:Code),(r=none∨kE c=true)→∀ {K:Exit→KS} {s:Sl} {G:Hp} {nx:Nat} {a:Act} {w:World} {E:En} {Q:Exit→Act→World→Prop},AW P N c K s G nx→bU G nx→RelAt P N E1 w1 s G a w E→
  (∀e s' G' nx' a' w' E',K e s' G' nx'→bU G' nx'→RelAt P N E1 w1 s' G' a' w' E'→Q e a' w')→c.wpIn (FW r) n P Q a w:=by
 intro c;induction c with
 | skip=>intro _ K s G nx a w E Q h hf hr hQ;exact wpIn_skip (hQ _ _ _ _ _ _ _ h hf hr)
 | label l=>intro _ K s G nx a w E Q h hf hr hQ;exact wpIn_label (hQ _ _ _ _ _ _ _ h hf hr)
 | exit id=>intro _ K s G nx a w E Q h hf hr hQ;exact wpIn_exit (hQ _ _ _ _ _ _ _ h hf hr)
 | goto l=>intro _ K s G nx a w E Q h hf hr hQ;exact wpIn_goto (hQ _ _ _ _ _ _ _ h hf hr)
 | ret=>intro _ K s G nx a w E Q h hf hr hQ;exact wpIn_ret (hQ _ _ _ _ _ _ _ h hf hr)
 | region id ops d=>intro _ K s G nx a w E Q h hf hr hQ;exact J5 hm h.1 h.2 hf hr fun s' G' nx' a' w' E' h1 h2 h3=>hQ _ _ _ _ _ _ _ h1 h2 h3
 | seq x y ihx ihy=>
  intro nr K s G nx a w E Q h hf hr hQ;refine wpIn_seq (ihx (nr.imp_right fun h=>(Bool.and_eq_true_iff.1 h).1) h hf hr fun e s' G' nx' a' w' E' h1 h2 h3=> ?_);cases e with
  | normal=>exact ihy (nr.imp_right fun h=>(Bool.and_eq_true_iff.1 h).2) h1 h2 h3 hQ
  | _=>exact hQ _ _ _ _ _ _ _ h1 h2 h3
 | cond c x y ihx ihy=>
  intro nr K s G nx a w E Q h hf hr hQ;rcases h with⟨t,ht,h⟩ | ⟨ht,h1,h2⟩
  case inr=>
   have:=jH hr.slots c;rw[ht]at this;generalize hv:a.eval c=v at this;cases this with
   | tree h=>cases h
   | bl b=>
    refine wpIn_cond hv ?_;cases b with
    | true=>exact ihx (nr.imp_right fun h=>(Bool.and_eq_true_iff.1 h).1) h1 hf hr hQ
    | false=>exact ihy (nr.imp_right fun h=>(Bool.and_eq_true_iff.1 h).2) h2 hf hr hQ
  have hc:a.eval c=.bool t:=by
   have:=jH hr.slots c;rw[ht]at this;exact this.iE.1
  refine wpIn_cond hc ?_;cases t with
  | true=>exact ihx (nr.imp_right fun h=>(Bool.and_eq_true_iff.1 h).1) h hf hr hQ
  | false=>exact ihy (nr.imp_right fun h=>(Bool.and_eq_true_iff.1 h).2) h hf hr hQ
 | block id x ih=>
  intro nr K s G nx a w E Q h hf hr hQ;refine wpIn_block (ih nr h hf hr fun e s' G' nx' a' w' E' h1 h2 h3=> ?_);cases e with
  | exit id'=>
   show(if id'=id then Q .normal a' w' else Q (.exit id') a' w');simp only at h1;split
   ·rename_i hid;rw[if_pos hid]at h1;exact hQ _ _ _ _ _ _ _ h1 h2 h3
   ·rename_i hid;rw[if_neg hid]at h1;exact hQ _ _ _ _ _ _ _ h1 h2 h3
  | _=>exact hQ _ _ _ _ _ _ _ h1 h2 h3
 | loop x ih=>
  intro nr K s G nx a w E Q h hf hr hQ;obtain⟨I,μ,hI,hround⟩:=h
  let A:Act→World→Nat→Prop:=fun a w n=>∃s G nx E,bU G nx∧RelAt P N E1 w1 s G a w E∧I s G nx∧μ s G nx=n
  have hmin:∀a w,(∃n,A a w n)→∃n,A a w n∧∀m,A a w m→n≤m:=fun a w h=>Jh h
  classical
  let μ':Act→World→Nat:=fun a w=>if h:∃n,A a w n then Classical.choose (hmin a w h)else 0
  have hμ:∀a w (h:∃n,A a w n),A a w (μ' a w)∧∀m,A a w m→μ' a w≤m:=fun a w h=>by
   have:=Classical.choose_spec (hmin a w h);simp only[μ',dif_pos h];exact this
  refine wpIn_loop (fun a w=>∃n,A a w n) μ' ⟨_,_,_,_,_,hf,hr,hI,rfl⟩ fun a w hA=> ?_;obtain⟨⟨s1,G1,nx1,E1,hf1,hr1,hI1,hn1⟩,_⟩:=hμ a w hA;refine ih nr (hround s1 G1 nx1 hf1 hI1) hf1 hr1 fun e s' G' nx' a' w' E' h1 h2 h3=> ?_;cases e with
  | normal=>
   have hA':A a' w' (μ s' G' nx'):=⟨_,_,_,_,h2,h3,h1.1,rfl⟩;refine⟨⟨_,hA'⟩,?_⟩;have:=(hμ a' w' ⟨_,hA'⟩).2 _ hA';have:=h1.2;omega
  | _=>exact hQ _ _ _ _ _ _ _ h1 h2 h3
 | rangeFunc g ps assign body=>
  intro nr K s G nx a w E Q h hf hr hQ;rcases nr with rfl | nr
  ·exact h n E1 w1 a w E Q hr hf hQ
  ·cases nr
 | scope x ih=>
  intro nr K s G nx a w E Q h hf hr hQ;rcases nr with rfl | nr
  ·rcases h with h | h
   ·refine(wpIn_wide (n:=n)).2 (wp_scope_straight ((wpIn_wide (n:=n)).1 (ih (.inl rfl) h hf hr fun e s' G' nx' a' w' E' h1 h2 h3=> ?_)));cases e with
    | goto l=>exact h1.elim
    | _=>exact hQ _ _ _ _ _ _ _ h1 h2 h3
   ·exact h n E1 w1 a w E Q hr hf hQ
  ·cases nr
 | _=>intro _ K s G nx a w E Q h;exact h.elim
end
section
variable {P:Program} [Gl P] {N:Nat} {E1:En} {w1:World} {s:Sl} {G:Hp} {a:Act} {w:World} {E:En}
theorem jT {l:Nat} {o':Obj} (b:Nat) (hb:b≠l):(w.putObj l o').heap[b]? =w.heap[b]? :=World.putObj_heap_other hb
theorem Aj {l:Nat} {o o':Obj} (h:w.heap[l]? =some o):(w.putObj l o').heap[l]? =some o':=World.putObj_heap_same (Array.getElem?_eq_some_iff.1 h).1
theorem G7 {l:Nat} {o o':Obj} (h:w.heap[l]? =some o) (ho:o.isCells=false) (ho':o'.isCells=false) (p:Addr):(w.putObj l o').cell? p=w.cell? p:=by
 unfold World.cell?;by_cases hb:p.block=l
 ·rw[hb,Aj h,h];cases o<;>cases o'<;>first | rfl | (simp[Obj.isCells]at ho ho')
 ·rw[jT _ hb]
theorem xg {l:Nat} {o o':Obj} (h:w.heap[l]? =some o) (ho:o.isCells=false) (ho':o'.isCells=false) (b:Nat):(w.putObj l o').shape? b=w.shape? b:=by
 unfold World.shape?;by_cases hb:b=l
 ·rw[hb,Aj h,h];cases o<;>cases o'<;>first | rfl | (simp[Obj.isCells]at ho ho')
 ·rw[jT _ hb]
theorem TR.put {M:Nat→Prop} {l:Nat} {o o':Obj} (h:w.heap[l]? =some o) (ho:o.isCells=false) (ho':o'.isCells=false) {x:AV} {u:Value} (hx:TR M w x u):TR M (w.putObj l o') x u:=by
 induction hx with
 | v h=>exact .v h
 | nil A hn=>exact .nil A hn
 | sl hn h0 hb hl hc hr ih=>exact .sl hn h0 hb hl (fun i u hu=>by rw[G7 h ho ho'];exact hc i u hu) ih
theorem VR.put {l:Nat} {o o':Obj} (h:w.heap[l]? =some o) (ho:o.isCells=false) (ho':o'.isCells=false) {x:AV} {u:Value} (hx:VR P E w x u):VR P E (w.putObj l o') x u:=by
 induction hx with
 | any u=>exact .any u
 | und=>exact .und
 | tree hx=>exact .tree (hx.put h ho ho')
 | agg hl _ h1 ih=>exact .agg hl ih h1
 | tup hl _ ih=>exact .tup hl ih
 | ptr hK h1 h=>exact .ptr hK h1 h
 | row hK h1 h2 hN=>
  refine .row hK h1 (fun b hb=> ?_) hN;obtain⟨cap,e,A,q1,q2,q3,q4,q5⟩:=h2 b hb;exact⟨cap,e,A,q1,q2,q3,by rw[xg h ho ho'];exact q4,q5⟩
 | ea h0 h1 h ih=>exact .ea ih h1 h
 | mp hK h1 h=>exact .mp hK h1 h
 | bl b=>exact .bl b
 | yl hK h1 h=>exact .yl hK h1 h
 | cp hb hl h0 hc hr=>exact .cp hb hl h0 (fun i u hu=>by rw[G7 h ho ho'];exact hc i u hu) (fun i a u ha hu=>(hr i a u ha hu).put h ho ho')
 | fn hl _ ih=>exact .fn hl ih
 | mt hl _ ih=>exact .mt hl ih
theorem OR.put {l:Nat} {o o':Obj} (h:w.heap[l]? =some o) (ho:o.isCells=false) (ho':o'.isCells=false) {d b:Nat} (hb:b≠l) {x:AObj} (hx:OR P E w d b x):OR P E (w.putObj l o') d b x:=by
 have hh:=jT (w:=w) (o':=o') b hb;cases x with
 | var t cs=>obtain⟨us,q1,q2,q3,q4,q5⟩:=hx;exact⟨us,hh.trans q1,q2,q3,fun i a u ha hu=>(q4 i a u ha hu).put h ho ho',q5⟩
 | row e cs=>obtain⟨us,q1,q2,q4⟩:=hx;exact⟨us,hh.trans q1,q2,fun i a u ha hu=>(q4 i a u ha hu).put h ho ho'⟩
 | frz e cs=>obtain⟨us,q1,q2,q4⟩:=hx;exact⟨us,hh.trans q1,q2,fun i a u ha hu=>(q4 i a u ha hu).put h ho ho'⟩
 | map es=>obtain⟨ents,clock,q1,q2,q3,q4,q5⟩:=hx;exact⟨ents,clock,hh.trans q1,q2,fun i e en he hen=>⟨(q3 i e en he hen).1,(q3 i e en he hen).2.put h ho ho'⟩,q4,q5⟩
 | dead=>exact trivial
 | lp st pd s N ps as bd=>obtain⟨fn,tmps,D,q1,q2,q3⟩:=hx;exact⟨fn,tmps,D,hh.trans q1,q2,fun t=>(q3 t).put h ho ho'⟩
 | df=>exact hh.trans hx
theorem Rel.Aa {l:Nat} {o o':Obj} (hR:Rel P E w G) (h:w.heap[l]? =some o) (ho:o.isCells=false) (ho':o'.isCells=false) (hl:∀i,E.φ i≠some l):Rel P E (w.putObj l o') G:=
 ⟨hR.inj,hR.dom,fun i b hb=>by rw[World.putObj_size];exact hR.lt i b hb,fun i o hi ha=>by
   rcases hR.obj i o hi ha with⟨b,hb,hO⟩ | h1
   ·exact .inl ⟨b,hb,hO.put h ho ho' (fun e=>hl i (e▸hb))⟩
   ·exact .inr h1,hR.K,hR.W,hR.nF,fun b hb=>by rw[World.putObj_size];exact hR.Flt b hb,fun w'' h'=>hR.good w'' (ExtC.trans ⟨by rw[World.putObj_size];exact Nat.le_refl _,fun b ob hb hc _=>by rw[jT b (fun e=>by rw[e,h]at hb;injection hb with hb;rw[←hb,ho]at hc;cases hc)];exact hb⟩ h' (fun _ _ h=>h))⟩
theorem Rel.U6 {id b N0:Nat} {st st':LoopState} {pd pd':Option Code} {s0:Sl} {ps:Array Tmp} {as0 bd:Code} {r:Loop} (hR:Rel P E w G) (hb:E.φ id=some b) (hG:G id=some (.lp st pd s0 N0 ps as0 bd))
  (hr:w.heap[b]? =some (.loop r)) (h1:r.params=ps) (h2:r.assign=as0) (h3:r.body=bd) (h4:r.tmps.size=N0) (h5:∀t,VR P E w (s0 t) (r.tmps.getD t undef)):
  Rel P E (w.putObj b (.loop {r with state:=st',pending:=pd'})) (G.upd id (.lp st' pd' s0 N0 ps as0 bd))∧Ext E.W w (w.putObj b (.loop {r with state:=st',pending:=pd'})):=by
 have hW:E.W b:=(hR.W b).2 ⟨id,_,hb,hG,rfl⟩;refine⟨⟨hR.inj,fun i c hc=> ?_,fun i c hc=>by rw[World.putObj_size];exact hR.lt i c hc,fun i o hi ha=> ?_,fun i=> ?_,fun c=> ?_,hR.nF,fun c hc=>by rw[World.putObj_size];exact hR.Flt c hc,fun w'' h'=>hR.good w'' (ExtC.trans ⟨by rw[World.putObj_size];exact Nat.le_refl _,fun b2 ob hb2 hc _=>by rw[jT b2 (fun e=>by rw[e,hr]at hb2;injection hb2 with hb2;rw[←hb2]at hc;cases hc)];exact hb2⟩ h' (fun _ _ h=>h))⟩,⟨rfl,rfl,rfl,by rw[World.putObj_size];exact Nat.le_refl _,fun c hc hn=>jT c (fun e=>hn (e▸hW)),fun c hc=>xg hr rfl rfl c⟩⟩
 ·by_cases hi:i=id
  ·subst hi;exact⟨_,Hp.bW _ _ _,rfl⟩
  ·rw[Hp.upd_ne _ _ hi];exact hR.dom i c hc
 ·by_cases hid:i=id
  ·subst hid;rw[Hp.bW]at hi;injection hi with hi;subst hi;refine .inl ⟨b,hb,r.fn,r.tmps,r.defers,?_,h4,fun t=>(h5 t).put hr rfl rfl⟩;rw[Aj hr];subst h1;subst h2;subst h3;rfl
  ·rw[Hp.upd_ne _ _ hid]at hi;rcases hR.obj i o hi ha with⟨c,hc,hO⟩ | h
   ·exact .inl ⟨c,hc,hO.put hr rfl rfl (fun e=>hid (hR.inj _ _ b (e▸hc) hb))⟩
   ·exact .inr h
 ·by_cases hi:i=id
  ·subst hi;exact⟨fun _=>⟨_,Hp.bW _ _ _⟩,fun _=>(hR.K i).2 ⟨_,hG⟩⟩
  ·rw[Hp.upd_ne _ _ hi];exact hR.K i
 ·rw[hR.W c];constructor
  ·rintro⟨i,o,q1,q2,q3⟩;by_cases hi:i=id
   ·subst hi;exact⟨i,_,q1,Hp.bW _ _ _,rfl⟩
   ·exact⟨i,o,q1,by rw[Hp.upd_ne _ _ hi];exact q2,q3⟩
  ·rintro⟨i,o,q1,q2,q3⟩;by_cases hi:i=id
   ·subst hi;exact⟨i,_,q1,hG,rfl⟩
   ·exact⟨i,o,q1,by rw[Hp.upd_ne _ _ hi]at q2;exact q2,q3⟩
theorem RelAt.take (h:RelAt P N E1 w1 s G a w E) {d:Deferred} {ds:List Deferred} (hd:a.defers=d::ds):
  ∃(D:Nat) (w':World),d.target=.collected D∧(Instr.takeDeferred D).run P w=.ok [] w'∧RelAt P N E1 w1 s G {a with defers:=ds} w' E:=by
 have hdef:=h.defers;rw[hd]at hdef;obtain⟨D,rfl,h1,h2,h3⟩:=hdef.each d (by simp);have hφ:∀i,E.φ i≠some D:=fun i hi=>by
  obtain⟨o,hG,ha⟩:=h.rel.dom i D hi;by_cases hm:o.mut=true
  ·exact h2 ((h.rel.W D).2 ⟨i,o,hi,hG,hm⟩)
  ·rcases h.rel.obj i o hG ha with⟨b,hb,hO⟩ | ⟨hN,e,rfl⟩
   ·rw[hi]at hb;injection hb with hb;subst hb;cases o<;>first | exact hm rfl | (simp[AObj.alive]at ha;done) | (obtain⟨us,q1,_⟩:=hO;rw[h1]at q1;cases q1)
   ·exact hm rfl
 have hsz:w1.heap.size≤w.heap.size:=h.ext.size;refine⟨D,_,rfl,run_takeDeferred h1,fun t=>(h.slots t).put h1 rfl rfl,h.rel.Aa h1 rfl rfl hφ,⟨h.ext.os,h.ext.tape,h.ext.output,by rw[World.putObj_size];exact hsz,fun b hb hn=> ?_,fun b hb=> ?_⟩,h.le,⟨?_,fun d hd'=> ?_⟩,h.size⟩
 ·rw[jT b (by omega)];exact h.ext.same b hb hn
 ·rw[xg h1 rfl rfl];exact h.ext.shape b hb
 ·have:=hdef.nodup;exact(List.nodup_cons.1 this).2
 ·obtain⟨D',rfl,q1,q2,q3⟩:=hdef.each d (by simp[hd']);refine⟨D',rfl,?_,q2,q3⟩;rw[jT D' (fun e=> ?_)]
  ·exact q1
  ·subst e;exact(List.nodup_cons.1 hdef.nodup).1 hd'
theorem RelAt.leaves {fn:Func} {R:Ending→World→Prop} {n:Nat} :∀(ds:List Deferred) {a:Act} {w:World},a.defers=ds→RelAt P N E1 w1 s G a w E→
  (∀a' w',RelAt P N E1 w1 s G a' w' E→a'.tmps=a.tmps→∃v,(results fn a.tmps).run P w'=.ok v w'∧R (.returned v) w')→LeavesInM (FW none) n P fn a.tmps R ds .returning w
 | [],a,w,hd,h,hR=>by
  obtain⟨v,h1,h2⟩:=hR a w h rfl;exact⟨v,h1,h2⟩
 | d::ds,a,w,hd,h,hR=>by
  obtain⟨D,w',q1,q2,q3⟩:=h.take hd;refine⟨by simp,.inl ⟨D,w',q1,q2,?_⟩⟩;exact RelAt.leaves ds (a:= {a with defers:=ds}) rfl q3 hR
end
def aP (P:Program) (G:Hp) (ids:List Nat):AV→Option (AV×List Nat)
 | .v x=>some (.v x,ids)
 | .sl n cs=>some (.sl n cs,ids)
 | .row id n=>match G id with
  | some (.row _ _)=>if ids.contains id=true then none else some (.row ids.length n,ids++[id])
  | some (.frz e cs)=>if n*P.cellsOf e≤cs.length then some (.sl n (cs.take (n*P.cellsOf e)),ids)else none
  | _=>none
 | _=>none
def bf (P:Program) (G:Hp):List Nat→List AV→Option (List AV×List Nat)
 | ids,[]=>some ([],ids)
 | ids,a::r=>match aP P G ids a with
  | some (b,ids1)=>match bf P G ids1 r with
   | some (bs,ids2)=>some (b::bs,ids2)
   | none=>none
  | none=>none
def bC (P:Program) (G:Hp) (ids:List Nat):AV→Option (AV×List Nat)
 | .agg cs=>(bf P G ids cs).map fun r=>(.agg r.1,r.2)
 | a=>aP P G ids a
def bg (P:Program) (G:Hp):List Nat→List AV→Option (List AV×List Nat)
 | ids,[]=>some ([],ids)
 | ids,a::r=>match bC P G ids a with
  | some (b,ids1)=>match bg P G ids1 r with
   | some (bs,ids2)=>some (b::bs,ids2)
   | none=>none
  | none=>none
def bF (P:Program) (G:Hp):AV→Option (AV×List Nat)
 | .tup vs=>(bg P G [] vs).map fun r=>(.tup r.1,r.2)
 | a=>bC P G [] a
def rowOf (G:Hp) (id:Nat):TypeId×List AV:=match G id with
 | some (.row e cs)=>(e,cs)
 | _=>(0,[])
def res1 (P:Program) (s:Sl) (G:Hp):ResultVar→Option AV
 | .tmp t=>some (s t)
 | .cell a t=>iG P G t (s a)
def aW (P:Program) (fn:Func) (s:Sl) (G:Hp):Option AV:=
 match fn.results.toList.mapM (res1 P s G)with
 | some [v]=>some v
 | some vs=>some (.tup vs)
 | none=>none
def Post (P:Program) (fn:Func) (r:AV) (J:Js) (e:Exit):KS:=fun s G _=>
 (e=.normal∨e=.ret)∧∃v ids,aW P fn s G=some v∧bF P G v=some (r,ids)∧okT r=true∧J=ids.map (rowOf G)
def IY (E:En) (ids:List Nat):En:=
 {φ:=fun k=>(ids[k]?).bind E.φ,K:=fun k=>k<ids.length,W:=fun b=>∃(k id:Nat),ids[k]? =some id∧E.φ id=some b,F:=E.F,N:=fun k=>∃(id:Nat),ids[k]? =some id∧E.N id,o:=fun k=>match ids[k]? with
  | some id=>E.o id
  | none=>0}
def kW (G:Hp) (ids:List Nat):Prop:=ids.Nodup∧∀id∈ids,∃e cs,G id=some (.row e cs)
section
variable {P:Program} [Gl P] {N:Nat} {ops:Array Oper} {s s':Sl} {G G':Hp} {nx:Nat} {E1:En} {w1 w:World} {a:Act} {E:En}
theorem Ku (hR:Rel P E w G) {ids:List Nat} (hI:kW G ids):∀b,(IY E ids).W b→E.W b:=by
 rintro b ⟨k,id,h1,h2⟩;obtain⟨e,cs,hG⟩:=hI.2 id (List.mem_of_getElem? h1);exact(hR.W b).2 ⟨id,_,h2,hG,rfl⟩
theorem QN (hR:Rel P E w G) {ids:List Nat} (hI:kW G ids):∀b,(IY E ids).M b→E.M b:=fun b hb=>by
 rcases hb with hb | hb
 ·exact .inl hb
 ·exact .inr (Ku hR hI b hb)
theorem EO {ids ids':List Nat} {x r:AV} (h:aP P G ids x=some (r,ids')) (hI:kW G ids):kW G ids'∧∃ext,ids'=ids++ext:=by
 cases x with
 | v x=>simp[aP]at h;obtain⟨_,rfl⟩:=h;exact⟨hI,[],by simp⟩
 | sl n cs=>simp[aP]at h;obtain⟨_,rfl⟩:=h;exact⟨hI,[],by simp⟩
 | row id n=>
  simp only[aP]at h;split at h
  ·rename_i e cs hG;split at h
   ·cases h
   ·rename_i hc;simp only[Option.some.injEq,Prod.mk.injEq]at h;obtain⟨_,rfl⟩:=h;refine⟨⟨?_,fun i hi=> ?_⟩,[id],rfl⟩
    ·rw[List.nodup_append];exact⟨hI.1,by simp,fun a ha b hb=>by simp at hb;subst hb;intro e;subst e;exact hc (by simpa using ha)⟩
    ·rcases List.mem_append.1 hi with hi | hi
     ·exact hI.2 i hi
     ·simp at hi;subst hi;exact⟨_,_,hG⟩
  ·split at h
   ·simp only[Option.some.injEq,Prod.mk.injEq]at h;obtain⟨_,rfl⟩:=h;exact⟨hI,[],by simp⟩
   ·cases h
  ·cases h
 | _=>simp[aP]at h
theorem xP (hR:Rel P E w G) {ids ids' fin:List Nat} {x r:AV} {u:Value} (h:aP P G ids x=some (r,ids')) (hx:VR P E w x u) (hI:kW G fin) (hp:∃ext,fin=ids'++ext):VR P (IY E fin) w r u:=by
 have hM:=QN hR hI;cases x with
 | v x=>simp[aP]at h;obtain⟨rfl,rfl⟩:=h;obtain⟨rfl,h1⟩:=hx.iE;exact .tree (.v h1)
 | sl n cs=>simp[aP]at h;obtain⟨rfl,rfl⟩:=h;exact .tree (hx.oQ.rW hM)
 | row id n=>
  simp only[aP]at h;split at h
  ·rename_i e cs hG;split at h
   ·cases h
   ·simp only[Option.some.injEq,Prod.mk.injEq]at h;obtain⟨rfl,rfl⟩:=h;obtain⟨ext,rfl⟩:=hp;have hk:(ids++[id]++ext)[ids.length]? =some id:=(by simp);have e0:(IY E (ids++[id]++ext)).o ids.length=E.o id:=by
     show(match (ids++[id]++ext)[ids.length]? with
      | some id=>E.o id
      | none=>0)=_
     rw[hk]
    cases hx with
    | tree h=>cases h
    | row hK h1 h2 h3=>
     refine .row (by show ids.length<(ids++[id]++ext).length;simp) h1 (fun b hb=>by
      have hb':((ids++[id]++ext)[ids.length]?).bind E.φ=some b:=hb;rw[hk]at hb';rw[e0];exact h2 b hb') (fun hN=>h3 ?_)
     ·obtain⟨id',h4,h5⟩:=hN;rw[hk]at h4;injection h4 with h4;subst h4;exact h5
  ·rename_i e cs hG;split at h
   ·rename_i hl;simp only[Option.some.injEq,Prod.mk.injEq]at h;obtain⟨rfl,rfl⟩:=h;refine .tree (hx.uK hR (.inr hG) hl _ hM fun b hb hm=> ?_);rcases hm with hm | ⟨k,id',h1,h2⟩
    ·exact hR.nF id b hb hm
    ·have:=hR.inj _ _ _ hb h2;subst this;obtain⟨e',cs',hG'⟩:=hI.2 _ (List.mem_of_getElem? h1);rw[hG]at hG';cases hG'
   ·cases h
  ·cases h
 | _=>simp[aP]at h
theorem Eu:∀ {xs rs:List AV} {ids ids':List Nat},bf P G ids xs=some (rs,ids')→kW G ids→kW G ids'∧(∃ext,ids'=ids++ext)∧rs.length=xs.length
 | [],rs,ids,ids',h,hI=>by simp[bf]at h;obtain⟨rfl,rfl⟩:=h;exact⟨hI,⟨[],by simp⟩,rfl⟩
 | x::xs,rs,ids,ids',h,hI=>by
  simp only[bf]at h;split at h
  ·rename_i b ids1 h1;split at h
   ·rename_i bs ids2 h2;simp only[Option.some.injEq,Prod.mk.injEq]at h;obtain⟨rfl,rfl⟩:=h;obtain⟨i1,e1,rfl⟩:=EO h1 hI;obtain⟨i2,⟨e2,rfl⟩,l2⟩:=Eu h2 i1;exact⟨i2,⟨e1++e2,by simp⟩,by simp[l2]⟩
   ·cases h
  ·cases h
theorem yE (hR:Rel P E w G):∀ {xs rs:List AV} {us:List Value} {ids ids' fin:List Nat},bf P G ids xs=some (rs,ids')→kW G ids→All2 (VR P E w) xs us→kW G fin→(∃ext,fin=ids'++ext)→All2 (VR P (IY E fin) w) rs us
 | [],rs,us,ids,ids',fin,h,h0,hx,hI,hp=>by
  simp[bf]at h;obtain⟨rfl,rfl⟩:=h;have:us=[]:=List.eq_nil_of_length_eq_zero (by simpa using hx.1);subst this;exact .nil
 | x::xs,rs,us,ids,ids',fin,h,h0,hx,hI,hp=>by
  obtain⟨u,us,rfl,hx1,hx2⟩:=hx.jP;simp only[bf]at h;split at h
  ·rename_i b ids1 h1;split at h
   ·rename_i bs ids2 h2;simp only[Option.some.injEq,Prod.mk.injEq]at h;obtain⟨rfl,rfl⟩:=h;obtain⟨i1,_⟩:=EO h1 h0;obtain⟨_,⟨e2,rfl⟩,_⟩:=Eu h2 i1;obtain⟨ext,rfl⟩:=hp;exact .cons (xP hR h1 hx1 hI ⟨e2++ext,by simp⟩) (yE hR h2 i1 hx2 hI ⟨ext,rfl⟩)
   ·cases h
  ·cases h
theorem F6 {ids ids':List Nat} {x r:AV} (h:bC P G ids x=some (r,ids')) (hI:kW G ids):kW G ids'∧∃ext,ids'=ids++ext:=by
 cases x with
 | agg cs=>
  simp only[bC,Option.map_eq_some_iff,Prod.mk.injEq]at h;obtain⟨⟨rs,i2⟩,h1,rfl,rfl⟩:=h;obtain⟨i,e,_⟩:=Eu h1 hI;exact⟨i,e⟩
 | _=>exact EO (by simpa only[bC]using h) hI
theorem yA (hR:Rel P E w G) {ids ids' fin:List Nat} {x r:AV} {u:Value} (h:bC P G ids x=some (r,ids')) (h0:kW G ids) (hx:VR P E w x u) (hI:kW G fin) (hp:∃ext,fin=ids'++ext):VR P (IY E fin) w r u:=by
 cases x with
 | agg cs=>
  simp only[bC,Option.map_eq_some_iff,Prod.mk.injEq]at h;obtain⟨⟨rs,i2⟩,h1,rfl,rfl⟩:=h;obtain⟨us,rfl,hl,hv,hone⟩:=hx.jO;have:=yE hR h1 h0 ⟨hl,hv⟩ hI hp;exact .agg this.1 this.2 hone
 | _=>exact xP hR (by simpa only[bC]using h) hx hI hp
theorem Ew:∀ {xs rs:List AV} {ids ids':List Nat},bg P G ids xs=some (rs,ids')→kW G ids→kW G ids'∧(∃ext,ids'=ids++ext)
 | [],rs,ids,ids',h,hI=>by simp[bg]at h;obtain⟨rfl,rfl⟩:=h;exact⟨hI,⟨[],by simp⟩⟩
 | x::xs,rs,ids,ids',h,hI=>by
  simp only[bg]at h;split at h
  ·rename_i b ids1 h1;split at h
   ·rename_i bs ids2 h2;simp only[Option.some.injEq,Prod.mk.injEq]at h;obtain⟨rfl,rfl⟩:=h;obtain⟨i1,e1,rfl⟩:=F6 h1 hI;obtain⟨i2,⟨e2,rfl⟩⟩:=Ew h2 i1;exact⟨i2,⟨e1++e2,by simp⟩⟩
   ·cases h
  ·cases h
theorem yC (hR:Rel P E w G):∀ {xs rs:List AV} {us:List Value} {ids ids' fin:List Nat},bg P G ids xs=some (rs,ids')→kW G ids→All2 (VR P E w) xs us→kW G fin→(∃ext,fin=ids'++ext)→All2 (VR P (IY E fin) w) rs us
 | [],rs,us,ids,ids',fin,h,h0,hx,hI,hp=>by
  simp[bg]at h;obtain⟨rfl,rfl⟩:=h;have:us=[]:=List.eq_nil_of_length_eq_zero (by simpa using hx.1);subst this;exact .nil
 | x::xs,rs,us,ids,ids',fin,h,h0,hx,hI,hp=>by
  obtain⟨u,us,rfl,hx1,hx2⟩:=hx.jP;simp only[bg]at h;split at h
  ·rename_i b ids1 h1;split at h
   ·rename_i bs ids2 h2;simp only[Option.some.injEq,Prod.mk.injEq]at h;obtain⟨rfl,rfl⟩:=h;obtain⟨i1,_⟩:=F6 h1 h0;obtain⟨_,⟨e2,rfl⟩⟩:=Ew h2 i1;obtain⟨ext,rfl⟩:=hp;exact .cons (yA hR h1 h0 hx1 hI ⟨e2++ext,by simp⟩) (yC hR h2 i1 hx2 hI ⟨ext,rfl⟩)
   ·cases h
  ·cases h
theorem yY (hR:Rel P E w G) {ids:List Nat} {x r:AV} {u:Value} (h:bF P G x=some (r,ids)) (hx:VR P E w x u):kW G ids∧VR P (IY E ids) w r u:=by
 have h0:kW G []:=⟨by simp,fun _ h=>by simp at h⟩;cases x with
 | tup vs=>
  simp only[bF,Option.map_eq_some_iff,Prod.mk.injEq]at h;obtain⟨⟨rs,i2⟩,h1,rfl,rfl⟩:=h;obtain⟨us,rfl,hl,hv⟩:=hx.sD;obtain⟨hI,_⟩:=Ew h1 h0;have:=yC hR h1 h0 ⟨hl,hv⟩ hI ⟨[],by simp⟩;exact⟨hI,.tup this.1 this.2⟩
 | _=>
  simp only[bF]at h;have h':=h;obtain⟨hI,_⟩:=F6 h' h0;exact⟨hI,yA hR h' h0 hx hI ⟨[],by simp⟩⟩
theorem uU {ids:List Nat} (hI:kW G ids) (k:Nat):ofJ (ids.map (rowOf G)) k=(ids[k]?).bind G:=by
 simp only[ofJ,List.getElem?_map];cases h:ids[k]? with
 | none=>rfl
 | some id=>
  obtain⟨e,cs,hG⟩:=hI.2 id (List.mem_of_getElem? h);simp[rowOf,hG]
theorem He (hR:Rel P E w G) {ids:List Nat} (hI:kW G ids):Rel P (IY E ids) w (ofJ (ids.map (rowOf G))):=by
 have hM:=QN hR hI;have get:∀ {k b},(IY E ids).φ k=some b→∃id,ids[k]? =some id∧E.φ id=some b:=fun {k b} h=>by
  have h':(ids[k]?).bind E.φ=some b:=h;cases hk:ids[k]? with
  | none=>rw[hk]at h';cases h'
  | some id=>rw[hk]at h';exact⟨id,rfl,h'⟩
 refine⟨fun i j b hi hj=> ?_,fun i b hi=> ?_,fun i b hi=> ?_,fun i o hi ha=> ?_,fun i=> ?_,fun b=> ?_,fun i b hi hF=> ?_,hR.Flt,fun w'' h'=>hR.good w'' (h'.mono fun b _ h=>Ku hR hI b h)⟩
 ·obtain⟨x,h1,h2⟩:=get hi;obtain⟨y,h3,h4⟩:=get hj;have:=hR.inj _ _ _ h2 h4;subst this;exact(List.getElem?_inj (List.getElem?_eq_some_iff.1 h1).1 hI.1).1 (h1.trans h3.symm)
 ·obtain⟨x,h1,h2⟩:=get hi;obtain⟨o,h3,h4⟩:=hR.dom _ _ h2;exact⟨o,by rw[uU hI,h1];exact h3,h4⟩
 ·obtain⟨x,h1,h2⟩:=get hi;exact hR.lt _ _ h2
 ·rw[uU hI]at hi;cases hk:ids[i]? with
  | none=>rw[hk]at hi;cases hi
  | some id=>
   rw[hk]at hi;obtain⟨e,cs,hG⟩:=hI.2 id (List.mem_of_getElem? hk);have hi':G id=some o:=hi;rw[hG]at hi';injection hi' with hi';subst hi';rcases hR.obj id _ hG rfl with⟨b,hb,us,h1,h2,h3⟩ | ⟨hN,h1⟩
   ·have e0:(IY E ids).o i=E.o id:=by
     show(match ids[i]? with
      | some id=>E.o id
      | none=>0)=_
     rw[hk]
    refine .inl ⟨b,by show(ids[i]?).bind E.φ=some b;rw[hk];exact hb,?_⟩;rw[e0];exact⟨us,h1,h2,fun i a u ha hu=>(h3 i a u ha hu).rW hM⟩
   ·exact .inr ⟨⟨id,hk,hN⟩,h1⟩
 ·rw[uU hI];show i<ids.length↔_;constructor
  ·intro h;obtain⟨e,cs,hG⟩:=hI.2 ids[i] (List.getElem_mem h);exact⟨_,by rw[List.getElem?_eq_getElem h];exact hG⟩
  ·rintro⟨o,h⟩;rcases Nat.lt_or_ge i ids.length with h1 | h1
   ·exact h1
   ·rw[List.getElem?_eq_none h1]at h;cases h
 ·constructor
  ·rintro⟨k,id,h1,h2⟩;obtain⟨e,cs,hG⟩:=hI.2 id (List.mem_of_getElem? h1);exact⟨k,_,by show(ids[k]?).bind E.φ=some b;rw[h1];exact h2,by rw[uU hI,h1];exact hG,rfl⟩
  ·rintro⟨k,o,h1,h2,h3⟩;obtain⟨x,h4,h5⟩:=get h1;exact⟨k,x,h4,h5⟩
 ·obtain⟨x,h1,h2⟩:=get hi;exact hR.nF _ _ h2 hF
def resV (tmps:Array Value):ResultVar→Sem Value
 | .tmp t=>pure (tmps.getD t undef)
 | .cell x t=>do loadVar t (←asAddr (tmps.getD x undef))
theorem yV (fn:Func) (tmps:Array Value):results fn tmps=(do
  let vs←fn.results.mapM (resV tmps)
  pure (if h:vs.size=1 then vs[0]else .tuple vs)):=by
 unfold results;rfl
theorem JD (h:RelAt P N E1 w1 s G a w E) {rv:ResultVar} {v:AV} (hv:res1 P s G rv=some v):
  ∃u,((resV a.tmps rv).run P w=.ok u w)∧VR P E w v u:=by
 cases rv with
 | tmp t=>simp only[res1,Option.some.injEq]at hv;subst hv;exact⟨_,by simp[resV],h.slots t⟩
 | cell x t=>
  simp only[res1]at hv;have hs:=h.slots x;obtain⟨u,h1,h2⟩:=yN h.rel hs hv;refine⟨u,?_,h2⟩;unfold iG at hv;split at hv
  ·rename_i b k cs hT hr;split at hv
   ·obtain⟨ad,had,_⟩:=Aw h.rel hs hr (by have:=(jF hT).2.2.1;omega);rw[had]at h1;simp only[resV];rw[had];simpa [Instr.loadAt,Instr.sureAddr,asAddr]using h1
   ·cases hv
  ·cases hv
theorem yP (h:RelAt P N E1 w1 s G a w E):∀ {rvs:List ResultVar} {vs:List AV},rvs.mapM (res1 P s G)=some vs→
  ∃us:List Value,(rvs.mapM (resV a.tmps)).run P w=.ok us w∧All2 (VR P E w) vs us
 | [],vs,hv=>by simp at hv;subst hv;exact⟨[],by simp,.nil⟩
 | rv::rvs,vs,hv=>by
  rw[List.mapM_cons]at hv;cases h1:res1 P s G rv with
  | none=>simp[h1]at hv
  | some v=>
   cases h2:rvs.mapM (res1 P s G)with
   | none=>simp[h1,h2]at hv
   | some vs'=>
    simp[h1,h2]at hv;subst hv;obtain⟨u,hu,hvu⟩:=JD h h1;obtain⟨us,hus,hvs⟩:=yP h h2;refine⟨u::us,?_,.cons hvu hvs⟩;rw[List.mapM_cons];simp[Sem.run_bind,hu,hus]
theorem jh {fn:Func} (h:RelAt P N E1 w1 s G a w E) {v:AV} (hv:aW P fn s G=some v):∃u,(results fn a.tmps).run P w=.ok u w∧VR P E w v u:=by
 unfold aW at hv;cases hm:fn.results.toList.mapM (res1 P s G)with
 | none=>rw[hm]at hv;cases hv
 | some vs=>
  obtain⟨us,hu,hvs⟩:=yP h hm;have hrun:(fn.results.mapM (resV a.tmps)).run P w=.ok us.toArray w:=by
   rw[Array.mapM_eq_mapM_toList];simp[Sem.run_bind,hu]
  rw[hm]at hv;have hres:(results fn a.tmps).run P w=.ok (if h:us.toArray.size=1 then us.toArray[0]else .tuple us.toArray) w:=by
   rw[yV,Sem.run_bind,hrun];rfl
  refine⟨_,hres,?_⟩
  match vs,us,hvs,hv with
  | [x],[u],hvs,hv=>injection hv with hv;subst hv;simp;exact hvs.2 0 _ _ rfl rfl
  | [],[],hvs,hv=>injection hv with hv;subst hv;simp;exact .tup (us:=[]) hvs.1 hvs.2
  | x::y::r,p::q::t,hvs,hv=>injection hv with hv;subst hv;simp;exact .tup (us:=p::q::t) hvs.1 hvs.2
  | [],u::us,hvs,hv=>exact absurd hvs.1 (by simp)
  | [x],[],hvs,hv=>exact absurd hvs.1 (by simp)
  | [x],p::q::t,hvs,hv=>exact absurd hvs.1 (by simp)
  | x::y::r,[],hvs,hv=>exact absurd hvs.1 (by simp)
  | x::y::r,[p],hvs,hv=>exact absurd hvs.1 (by simp)
def Cj (args:List AV):Sl:=fun t=>args.getD t .und
theorem kD {fn:Func} {args:List AV} {us:List Value} (hx:All2 (VR P E w) args us) (hN:args.length≤fn.ntmps) (t:Nat):VR P E w (Cj args t) ((us.toArray++Array.replicate (fn.ntmps-us.toArray.size) undef).getD t undef):=by
 have hl:=hx.1;show VR P E w (args.getD t .und) _;rw[Array.getD_eq_getD_getElem?,Array.getElem?_append,List.getD_eq_getElem?_getD];by_cases ht:t<args.length
 ·rw[if_pos (by simp;omega)];simp only[List.getElem?_toArray];have h1:=List.getElem?_eq_getElem ht;have h2:=List.getElem?_eq_getElem (show t<us.length by omega);rw[h1,h2];exact hx.2 t _ _ h1 h2
 ·rw[if_neg (by simp;omega),List.getElem?_eq_none (by omega),Array.getElem?_replicate];split<;>exact .und
theorem aN {f:FuncId} {fn:Func} {c:Code} {args:List AV} {r:AV} {J:Js} (hm:P.follows .mixedOrders=true) (hent:∀args w,(callFunc f args).run P w=.ok (.enter f args) w) (hfn:P.funcs[f]? =some fn) (hb:fn.body=some c) (hN:args.length≤fn.ntmps)
  (h:AW P fn.ntmps c (Post P fn r J) (Cj args) (fun _=>none) 0) (hr:okT r=true):CallsOK P f args r J:=by
 refine⟨hr,hent,fun w us F hF hΓ hx=>(callsIn_wide (n:=0)).1 (callsIn_of_wp_marks hfn hb trivial (lN (r:=none) (n:=0) (E1:=En.zero F) (w1:=w) (E:=En.zero F) hm c (.inl rfl) h (fun _ _=>rfl) ⟨kD hx hN,?_,Ext.refl _ _,En.Le.refl _ _,.nil,?_⟩ ?_))⟩
 ·exact⟨fun i j b h=>(by cases h),fun i b h=>(by cases h),fun i b h=>(by cases h),fun i o h=>(by cases h),fun i=>⟨fun h=>h.elim,fun⟨_,h⟩=>(by cases h)⟩,fun b=>⟨fun h=>h.elim,fun⟨_,_,h,_⟩=>(by cases h)⟩,fun i b h=>(by cases h),hF,hΓ⟩
 ·have:=hx.1;simp;omega
 ·intro e s' G' nx' a' w' E' hP _ hrel;obtain⟨he,v,ids,h1,h2,h3,rfl⟩:=hP;have key:LeavesInM (FW none) 0 P fn a'.tmps (fun e w'=>∃u E',e=.returned u∧VR P E' w' r u∧Rel P E' w' (ofJ (ids.map (rowOf G')))∧E'.F=F∧Below w.heap.size w w'∧∀i b,E'.φ i=some b→w.heap.size≤b) a'.defers .returning w':=by
   refine RelAt.leaves a'.defers rfl hrel fun a2 w2 hrel ht=> ?_;obtain⟨u,hu,hvu⟩:=jh hrel h1;rw[ht]at hu;obtain⟨hI,hvr⟩:=yY hrel.rel h2 hvu;have hbelow:Below w.heap.size w w2:=hrel.ext.below fun b _ h=>h;have hge:∀k b,(IY E' ids).φ k=some b→w.heap.size≤b:=fun k b hk=>by
    have hW:E'.W b:=Ku hrel.rel hI b ⟨k,by
     have h':(ids[k]?).bind E'.φ=some b:=hk;cases h4:ids[k]? with
     | none=>rw[h4]at h';cases h'
     | some id=>rw[h4]at h';exact⟨id,rfl,h'⟩⟩
    rcases Nat.lt_or_ge b w.heap.size with hlt | hge
    ·exact(hrel.le.W b hlt hW).elim
    ·exact hge
   exact⟨u,hu,u,_,rfl,hvr,He hrel.rel hI,hrel.le.F,hbelow,hge⟩
  rcases he with rfl | rfl<;>exact key
theorem Vg {f:FuncId} {fn:Func} {c:Code} {args:List AV} {v:AV} {nx:Nat} (hm:P.follows .mixedOrders=true) (hent:∀args w,(callFunc f args).run P w=.ok (.enter f args) w) (hfn:P.funcs[f]? =some fn) (hb:fn.body=some c) (hN:args.length≤fn.ntmps)
  (hf:bU G nx) (h:AW P fn.ntmps c (fun e s' G'' _=>(e=.normal∨e=.ret)∧aW P fn s' G''=some v∧G''=G') (Cj args) G nx):InlOK P f args G v G':=by
 refine⟨hent,fun E w us hR hx=>(callsIn_wide (n:=0)).1 (callsIn_of_wp_marks hfn hb trivial (lN (r:=none) (n:=0) (E1:=E) (w1:=w) (E:=E) hm c (.inl rfl) h hf ⟨kD hx hN,hR,Ext.refl _ _,En.Le.refl _ _,.nil,?_⟩ ?_))⟩
 ·have:=hx.1;simp;omega
 ·intro e s' G'' nx' a' w' E' hP _ hrel;obtain⟨he,h1,rfl⟩:=hP;have key:LeavesInM (FW none) 0 P fn a'.tmps (fun e w'=>∃u E',e=.returned u∧VR P E' w' v u∧Rel P E' w' G''∧Ext E.W w w'∧En.Le w E E') a'.defers .returning w':=by
   refine RelAt.leaves a'.defers rfl hrel fun a2 w2 hrel ht=> ?_;obtain⟨u,hu,hvu⟩:=jh hrel h1;rw[ht]at hu;exact⟨u,hu,u,E',rfl,hvu,hrel.rel,hrel.ext,hrel.le⟩
  rcases he with rfl | rfl<;>exact key
theorem zY {f:FuncId} {fn:Func} {c:Code} {args:List AV} {nx:Nat} {K:AV→Hp→Nat→Prop} (hm:P.follows .mixedOrders=true) (hent:∀args w,(callFunc f args).run P w=.ok (.enter f args) w) (hfn:P.funcs[f]? =some fn) (hb:fn.body=some c) (hN:args.length≤fn.ntmps)
  (h:bU G nx→AW P fn.ntmps c (fun e s' G' nx'=>(e=.normal∨e=.ret)∧∃v,aW P fn s' G'=some v∧K v G' nx') (Cj args) G nx):L9 P f args K G nx:=by
 refine⟨hent,fun E w us hR hf hx=>(callsIn_wide (n:=0)).1 (callsIn_of_wp_marks hfn hb trivial (lN (r:=none) (n:=0) (E1:=E) (w1:=w) (E:=E) hm c (.inl rfl) (h hf) hf ⟨kD hx hN,hR,Ext.refl _ _,En.Le.refl _ _,.nil,?_⟩ ?_))⟩
 ·have:=hx.1;simp;omega
 ·intro e s' G'' nx' a' w' E' hP hfr hrel;obtain⟨he,v,h1,hk⟩:=hP;have key:LeavesInM (FW none) 0 P fn a'.tmps (E5 P E w K) a'.defers .returning w':=by
   refine RelAt.leaves a'.defers rfl hrel fun a2 w2 hrel ht=> ?_;obtain⟨u,hu,hvu⟩:=jh hrel h1;rw[ht]at hu;exact⟨u,hu,u,v,E',G'',nx',rfl,hvu,hrel.rel,hfr,hrel.ext,hrel.le,hk⟩
  rcases he with rfl | rfl<;>exact key
end
structure Lp where
 s:Sl
 N:Nat
 ps:Array Tmp
 assign:Code
 body:Code
def Lp.o (L:Lp) (st:LoopState) (pd:Option Code):AObj:=.lp st pd L.s L.N L.ps L.assign L.body
def zx (s:Sl):List Tmp→List AV→Sl
 | t::ts,v::vs=>zx (s.upd t v) ts vs
 | _,_=>s
@[simp] theorem setPs_nil (s:Sl) (vs:List AV):zx s [] vs=s:=rfl
@[simp] theorem setPs_cons (s:Sl) (p:Tmp) (ts:List Tmp) (v:AV) (vs:List AV):zx s (p::ts) (v::vs)=zx (s.upd p v) ts vs:=rfl
def BL (L:Lp) (id:Nat) (K:AV→Hp→Nat→Prop):Exit→KS:=fun e _ G nx=>G id=some (L.o .busy none)∧match e with
 | .normal=>K (.v (.bool true)) (G.upd id (L.o .ready none)) nx
 | .ret=>K (.v (.bool false)) (G.upd id (L.o .done (some .ret))) nx
 | .exit i=>K (.v (.bool false)) (G.upd id (L.o .done (some (.exit i)))) nx
 | .goto l=>K (.v (.bool false)) (G.upd id (L.o .done (some (.goto l)))) nx
 | _=>False
def tJ (L:Lp) (id:Nat) (K:Exit→KS):Exit→KS:=fun e _ G nx=>(e=.normal∨e=.ret)∧
 ((G id=some (L.o .ready none)∧K .normal L.s (G.upd id (L.o .exhausted none)) nx)∨
   (G id=some (L.o .done (some .ret))∧K .ret L.s (G.upd id (L.o .exhausted (some .ret))) nx)∨
   (∃i,G id=some (L.o .done (some (.exit i)))∧K (.exit i) L.s (G.upd id (L.o .exhausted (some (.exit i)))) nx)∨
   (∃l,G id=some (L.o .done (some (.goto l)))∧K (.goto l) L.s (G.upd id (L.o .exhausted (some (.goto l)))) nx))
theorem dB {L:Lp} {id:Nat} {K:AV→Hp→Nat→Prop} {s:Sl} {G:Hp} {nx:Nat} (h:G id=some (L.o .busy none)) (hk:K (.v (.bool true)) (G.upd id (L.o .ready none)) nx):BL L id K .normal s G nx:=⟨h,hk⟩
theorem oz {L:Lp} {id:Nat} {K:AV→Hp→Nat→Prop} {s:Sl} {G:Hp} {nx:Nat} (h:G id=some (L.o .busy none)) (hk:K (.v (.bool false)) (G.upd id (L.o .done (some .ret))) nx):BL L id K .ret s G nx:=⟨h,hk⟩
theorem F7 {L:Lp} {id i:Nat} {K:AV→Hp→Nat→Prop} {s:Sl} {G:Hp} {nx:Nat} (h:G id=some (L.o .busy none)) (hk:K (.v (.bool false)) (G.upd id (L.o .done (some (.exit i)))) nx):BL L id K (.exit i) s G nx:=⟨h,hk⟩
theorem iw {L:Lp} {id:Nat} {K:Exit→KS} {e:Exit} {s:Sl} {G:Hp} {nx:Nat} (he:e=.normal∨e=.ret) (h:G id=some (L.o .ready none)) (hk:K .normal L.s (G.upd id (L.o .exhausted none)) nx):tJ L id K e s G nx:=⟨he,.inl ⟨h,hk⟩⟩
theorem oh {L:Lp} {id:Nat} {K:Exit→KS} {e:Exit} {s:Sl} {G:Hp} {nx:Nat} (he:e=.normal∨e=.ret) (h:G id=some (L.o .done (some .ret))) (hk:K .ret L.s (G.upd id (L.o .exhausted (some .ret))) nx):tJ L id K e s G nx:=⟨he,.inr (.inl ⟨h,hk⟩)⟩
theorem FV {L:Lp} {id i:Nat} {K:Exit→KS} {e:Exit} {s:Sl} {G:Hp} {nx:Nat} (he:e=.normal∨e=.ret) (h:G id=some (L.o .done (some (.exit i)))) (hk:K (.exit i) L.s (G.upd id (L.o .exhausted (some (.exit i)))) nx):tJ L id K e s G nx:=⟨he,.inr (.inr (.inl ⟨i,h,hk⟩))⟩
section
variable {P:Program} [Gl P] {N:Nat} {E1:En} {w1:World} {s:Sl} {G:Hp} {nx:Nat} {a:Act} {w:World} {E:En}
theorem C9:∀(ps:List Tmp) (as:List AV) {us:List Value} {s:Sl} {tmps:Array Value},All2 (VR P E w) as us→(∀t∈ps,t<tmps.size)→(∀t,VR P E w (s t) (tmps.getD t undef))→
  (∀t,VR P E w (zx s ps as t) (((ps.zip us).foldl (fun tmps (t,a)=>tmps.setIfInBounds t a) tmps).getD t undef))∧((ps.zip us).foldl (fun tmps (t,a)=>tmps.setIfInBounds t a) tmps).size=tmps.size
 | [],as,us,s,tmps,h,hp,hs=>by
  cases as<;>exact⟨by simpa [zx]using hs,by simp⟩
 | p::ps,[],us,s,tmps,h,hp,hs=>by
  have:us=[]:=List.eq_nil_of_length_eq_zero (by simpa using h.1);subst this;exact⟨by simpa [zx]using hs,by simp⟩
 | p::ps,a::as,us,s,tmps,h,hp,hs=>by
  obtain⟨u,us,rfl,h1,h2⟩:=h.jP;have hlt:=hp p (by simp);have:=C9 ps as (s:=s.upd p a) (tmps:=tmps.setIfInBounds p u) h2 (fun t ht=>by rw[Array.size_setIfInBounds];exact hp t (by simp[ht])) (fun t=>by
   by_cases ht:t=p
   ·subst ht;rw[Sl.bW];have:(tmps.setIfInBounds t u).getD t undef=u:=(by simp[Array.getD_eq_getD_getElem?,hlt]);rw[this];exact h1
   ·rw[Sl.upd_ne _ _ ht];have:(tmps.setIfInBounds p u).getD t undef=tmps.getD t undef:=by
     simp only[Array.getD_eq_getD_getElem?];rw[Array.getElem?_setIfInBounds_ne (fun e=>ht e.symm)]
    rw[this];exact hs t)
  refine⟨this.1,?_⟩;have h3:=this.2;rw[Array.size_setIfInBounds]at h3;exact h3
theorem Lp.obj {L:Lp} {id b:Nat} {st:LoopState} {pd:Option Code} (hR:Rel P E w G) (hG:G id=some (L.o st pd)) (hb:E.φ id=some b):
  ∃r:Loop,w.heap[b]? =some (.loop r)∧r.state=st∧r.pending=pd∧r.params=L.ps∧r.assign=L.assign∧r.body=L.body∧r.tmps.size=L.N∧∀t,VR P E w (L.s t) (r.tmps.getD t undef):=by
 obtain⟨b',hb',fn,tmps,D,h1,h2,h3⟩:=hR.FY hG rfl (fun e he=>by cases he);rw[hb]at hb';injection hb' with hb';subst hb';exact⟨_,h1,rfl,rfl,rfl,rfl,rfl,h2,h3⟩
theorem Lp.turn {L:Lp} {id b:Nat} {st st':LoopState} {pd pd':Option Code} {r:Loop} (hR:Rel P E w G) (hG:G id=some (L.o st pd)) (hb:E.φ id=some b) (hr:w.heap[b]? =some (.loop r)):
  Rel P E (w.putObj b (.loop {r with state:=st',pending:=pd'})) (G.upd id (L.o st' pd'))∧Ext E.W w (w.putObj b (.loop {r with state:=st',pending:=pd'})):=by
 obtain⟨r',h1,h2,h3,h4,h5,h6,h7,h8⟩:=Lp.obj hR hG hb;rw[hr]at h1;injection h1 with h1;injection h1 with h1;subst h1;exact hR.U6 hb hG hr h4 h5 h6 h7 h8
theorem Lp.id {L:Lp} {E':En} {w':World} {G':Hp} {id b:Nat} {st:LoopState} {pd:Option Code} (hle:En.Le w E E') (hK:E.K id) (hb:E.φ id=some b) (hR:Rel P E' w' G') (hG:G' id=some (L.o st pd)):E'.φ id=some b:=by
 obtain⟨b',hb',_⟩:=hR.FY hG rfl (fun e he=>by cases he);have:=hle.φ id b' hK hb';rw[hb]at this;injection this with this;rw[this];exact hb'
theorem VJ {L:Lp} {id:Nat} {as:List AV} {K:AV→Hp→Nat→Prop} (s0:Sl) (hs0:∀t,s0 t=zx L.s L.ps.toList as t∨(L.N≤t∧s0 t=.und)) (hm:P.follows .mixedOrders=true) (hG:G id=some (L.o .ready none)) (hl:as.length=L.ps.size) (hp:∀t∈L.ps.toList,t<L.N) (n1:kE L.assign=true) (n2:kE L.body=true)
  (h:bU G nx→AW P L.N L.assign (fun e s1 G1 nx1=>e=.normal∧G1 id=some (L.o .ready none)∧AW P L.N L.body (BL L id K) s1 (G1.upd id (L.o .busy none)) nx1) s0 G nx):DT P id as K G nx:=by
 intro E w us b hR hf hb hus;obtain⟨r,hr,hst,hpd,h1,h2,h3,h4,h5⟩:=Lp.obj hR hG hb;have hK:E.K id:=(hR.K id).2 ⟨_,hG⟩;have hsz:us.toArray.size=r.params.size:=(by have:=hus.1;simp;rw[h1];omega);refine⟨_,_,_,_,run_yield hr hsz,fun n=> ?_⟩;rw[h2,h3];have hset:=C9 L.ps.toList as (s:=L.s) (tmps:=r.tmps) hus (fun t ht=>by rw[h4];exact hp t ht) h5;have htm:((r.params.zip us.toArray).foldl (fun tmps (t,a)=>tmps.setIfInBounds t a) r.tmps)=((L.ps.toList.zip us).foldl (fun tmps (t,a)=>tmps.setIfInBounds t a) r.tmps):=by
  rw[h1,←Array.foldl_toList,Array.toList_zip]
 rw[htm];refine roundIn_of_wpIn trivial (lN (r:=some b) (n:=n) (E1:=E) (w1:=w) hm L.assign (.inr n1) (h hf) hf ⟨fun t=>by
  rcases hs0 t with h | ⟨h,h'⟩
  ·rw[h];exact hset.1 t
  ·rw[h',Array.getD_eq_getD_getElem?,Array.getElem?_eq_none (by rw[hset.2,h4];exact h)];exact .und,hR,Ext.refl _ _,En.Le.refl _ _,.nil,hset.2.trans h4⟩ fun e s1 G1 nx1 a1 w2 E1 hK1 hf1 hrel1=> ?_)
 obtain⟨rfl,hG1,hbody⟩:=hK1;have hb1:E1.φ id=some b:=Lp.id hrel1.le hK hb hrel1.rel hG1;obtain⟨r1,hr1,hst1,hpd1,_⟩:=Lp.obj hrel1.rel hG1 hb1;obtain⟨hR2,he2⟩:=Lp.turn (st':=.busy) (pd':=none) hrel1.rel hG1 hb1 hr1;have e1:({r1 with state:=.busy} :Loop)= {r1 with state:=.busy,pending:=none} :=(by cases r1;simp_all);refine⟨_,run_beginRound hr1 hst1,?_⟩;rw[e1];have hf2:bU (G1.upd id (L.o .busy none)) nx1:=fun i hi=>by
  have hne:i≠id:=fun e=>(by have:=hf1 i hi;rw[e,hG1]at this;cases this);rw[Hp.upd_ne _ _ hne];exact hf1 i hi
 refine lN (r:=some b) (n:=n) (E1:=E) (w1:=w) hm L.body (.inr n2) hbody hf2 ⟨fun t=>(hrel1.slots t).ext he2 (En.Le.refl _ _),hR2,hrel1.ext.trans he2 (fun b hb hW=>hrel1.le.W b hb hW),hrel1.le,hrel1.defers.ext he2 (fun _ _ h=>h),hrel1.size⟩ fun e s3 G3 nx3 a3 w3 E3 hK3 hf3 hrel3=> ?_;obtain⟨hG3,hk⟩:=hK3;have hb3:E3.φ id=some b:=Lp.id hrel3.le hK hb hrel3.rel hG3;obtain⟨r3,hr3,hst3,hpd3,_⟩:=Lp.obj hrel3.rel hG3 hb3;have fin:∀(pd:Option Code),K (.v (.bool pd.isNone)) (G3.upd id (L.o (if pd.isNone=true then .ready else .done) pd)) nx3→∃v w',(Instr.endRound b pd).run P w3=.ok v w'∧E5 P E w K (.returned v) w':=by
  intro pd hk;obtain⟨hR4,he4⟩:=Lp.turn (st':=if pd.isNone=true then .ready else .done) (pd':=pd) hrel3.rel hG3 hb3 hr3;refine⟨_,_,run_endRound pd hr3,_,_,E3,_,nx3,rfl,.tree (.v rfl),hR4,fun i hi=> ?_,hrel3.ext.trans he4 (fun b hb hW=>hrel3.le.W b hb hW),hrel3.le,hk⟩;have hne:i≠id:=fun e=>(by have:=hf3 i hi;rw[e,hG3]at this;cases this);rw[Hp.upd_ne _ _ hne];exact hf3 i hi
 cases e with
 | normal=>exact fin none hk
 | ret=>exact fin (some .ret) hk
 | exit i=>exact fin (some (.exit i)) hk
 | goto l=>exact fin (some (.goto l)) hk
 | panic _=>exact hk.elim
 | outgrown=>exact hk.elim
theorem Oi {L:Lp} {id:Nat} {as:List AV} {K:AV→Hp→Nat→Prop} (hm:P.follows .mixedOrders=true) (hG:G id=some (L.o .ready none)) (hl:as.length=L.ps.size) (hp:∀t∈L.ps.toList,t<L.N) (n1:kE L.assign=true) (n2:kE L.body=true)
  (h:bU G nx→AW P L.N L.assign (fun e s1 G1 nx1=>e=.normal∧G1 id=some (L.o .ready none)∧AW P L.N L.body (BL L id K) s1 (G1.upd id (L.o .busy none)) nx1) (zx L.s L.ps.toList as) G nx):DT P id as K G nx:=
 VJ _ (fun _=> .inl rfl) hm hG hl hp n1 n2 h
theorem jQ {g:Operand} {ps:Array Tmp} {assign body:Code} {K:Exit→KS} {f:FuncId} {caps:List AV} {fn:Func} {c:Code} (hm:P.follows .mixedOrders=true) (hg:evX s g=.fn f caps) (hent:∀args w,(callFunc f args).run P w=.ok (.enter f args) w)
  (hfn:P.funcs[f]? =some fn) (hb:fn.body=some c) (hN:caps.length+1≤fn.ntmps) (hres:fn.results= #[])
  (h:AW P fn.ntmps c (tJ ⟨s,N,ps,assign,body⟩ nx K) (Cj (.yl nx::caps)) (G.upd nx (Lp.o ⟨s,N,ps,assign,body⟩ .ready none)) (nx+1)):AW P N (.rangeFunc g ps assign body) K s G nx:=by
 intro n E1 w1 a w E Q hrel hf hQ;have hv:=jH hrel.slots g;rw[hg]at hv;obtain⟨us,hu,hl,hus⟩:=hv.Dk
 let L:Lp:=⟨s,N,ps,assign,body⟩
 have hD:(w.alloc (.deferred (some []))).heap[w.heap.size]? =some (.deferred (some [])):=World.alloc_heap_new w _;have hbel:Below w.heap.size w (w.alloc (.deferred (some []))):=(Below.refl _ w).alloc (Nat.le_refl _) _;obtain⟨hR1,he1⟩:=hrel.rel.below hbel;refine wpIn_rangeFunc fun fn0 _=> ?_
 let rc:Loop:= {state:=.ready,pending:=none,fn:=fn0,tmps:=a.tmps,params:=ps,assign,body,defers:=w.heap.size}
 have hsz1:(w.alloc (.deferred (some []))).heap.size=w.heap.size+1:=World.size_alloc _ _;have hnx:G nx=none:=hf nx (Nat.le_refl _);have hR2:=hR1.new hnx (L.o .ready none) rfl (.loop rc) (by
  refine⟨fn0,a.tmps,w.heap.size,World.alloc_heap_new _ _,hrel.size,fun t=> ?_⟩;exact((hrel.slots t).ext he1 (En.Le.refl _ _)).ext (Ext.alloc _ _ _) (En.tV hR1 hnx))
 have hle2:=En.tV hR1 hnx;have he2:Ext E.W w ((w.alloc (.deferred (some []))).alloc (.loop rc)):=he1.trans (Ext.alloc E.W _ _) (fun _ _ h=>h);rw[hsz1]at hR2 hle2;have hle3:En.Le w E (E.add nx (w.heap.size+1)):=(En.Le.refl w E).trans hle2 (by rw[hsz1];omega);have hf2:bU (G.upd nx (L.o .ready none)) (nx+1):=fun i hi=>by
  rw[Hp.upd_ne _ _ (by omega)];exact hf i (by omega)
 have hDne:w.heap.size≠w.heap.size+1:=(by omega);have hD2:((w.alloc (.deferred (some []))).alloc (.loop rc)).heap[w.heap.size]? =some (.deferred (some [])):=(Below.heap_alloc _ _ _ (by rw[hsz1];omega)).trans hD;refine⟨w.heap.size+1,[{target:=.collected w.heap.size,args:= #[]}],(w.alloc (.deferred (some []))).alloc (.loop rc),{target:=.fn (.func f) us.toArray,args:= #[.func (.yield (w.heap.size+1)) #[] #[]]},(w.alloc (.deferred (some []))).alloc (.loop rc),f, #[.func (.yield (w.heap.size+1)) #[] #[]]++us.toArray,(w.alloc (.deferred (some []))).alloc (.loop rc),run_enterLoop_outer _ _ _ _ _,?_,fun _ _=>trivial,?_,oG,?_⟩
 ·simp only[resolve,hu];simp[go_sem,Deferred.ofValue]
 ·simp[invoke,hent]
 have hargs:All2 (VR P (E.add nx (w.heap.size+1)) ((w.alloc (.deferred (some []))).alloc (.loop rc))) (.yl nx::caps) (.func (.yield (w.heap.size+1)) #[] #[]::us):=
  .cons (.yl (.inl rfl) rfl fun b hb=>by simp[En.add]at hb;subst hb;rfl) ⟨hl,fun i x u hx hu=>((hus i x u hx hu).ext he2 hle3)⟩
 have eargs: #[Value.func (.yield (w.heap.size+1)) #[] #[]]++us.toArray=(Value.func (.yield (w.heap.size+1)) #[] #[]::us).toArray:=(by simp);rw[eargs];refine callsIn_of_wp_marks hfn hb trivial (lN (r:=none) (n:=n-1) (E1:=E.add nx (w.heap.size+1)) (w1:=(w.alloc (.deferred (some []))).alloc (.loop rc)) (E:=E.add nx (w.heap.size+1)) hm c (.inl rfl) h hf2 ⟨kD hargs (by simpa using hN),hR2,Ext.refl _ _,En.Le.refl _ _,.nil,?_⟩ ?_)
 ·have:=hargs.1;simp at this⊢;omega
 ·intro e s' G' nx' a' w' E' hP hfr hrel';obtain⟨he,hP⟩:=hP;have hK2:(E.add nx (w.heap.size+1)).K nx:=.inl rfl;have hb2:(E.add nx (w.heap.size+1)).φ nx=some (w.heap.size+1):=(by simp[En.add]);have key:LeavesInM (FW none) (n-1) P fn a'.tmps (rangePost (FW none) n P (w.heap.size+1) Q {a with defers:=[{target:=.collected w.heap.size,args:= #[]}]++a.defers}) a'.defers .returning w':=by
   refine RelAt.leaves a'.defers rfl hrel' fun a2 w2 hrel2 ht=> ?_;have hres2:(results fn a'.tmps).run P w2=.ok (.tuple #[]) w2:=by
    rw[yV,hres];simp
   refine⟨_,hres2,?_⟩;have fin:∀(st:LoopState) (pd:Option Code),st≠ .busy→G' nx=some (L.o st pd)→(∀w4,Rel P E' w4 (G'.upd nx (L.o .exhausted pd))→RelAt P N E1 w1 s (G'.upd nx (L.o .exhausted pd)) {a with defers:=[{target:=.collected w.heap.size,args:= #[]}]++a.defers} w4 E'→
     (match pd with
       | none=>Q .normal {a with defers:=[{target:=.collected w.heap.size,args:= #[]}]++a.defers} w4
       | some c=>c.wpIn (FW none) n P Q {a with defers:=[{target:=.collected w.heap.size,args:= #[]}]++a.defers} w4))→
     rangePost (FW none) n P (w.heap.size+1) Q {a with defers:=[{target:=.collected w.heap.size,args:= #[]}]++a.defers} (.returned (.tuple #[])) w2:=by
    intro st pd hbz hG' hk;have hbb:E'.φ nx=some (w.heap.size+1):=Lp.id hrel2.le hK2 hb2 hrel2.rel hG';obtain⟨r,hr,hst,hpd,_⟩:=Lp.obj hrel2.rel hG' hbb;obtain⟨hR4,he4⟩:=Lp.turn (st':=.exhausted) (pd':=pd) hrel2.rel hG' hbb hr;refine⟨pd,_,by rw[run_endLoop hr (by rw[hst];exact hbz),hpd],?_⟩;have hext:Ext E.W w (w2.putObj (w.heap.size+1) (.loop {r with state:=.exhausted,pending:=pd})):=by
     refine(he2.trans hrel2.ext fun b hb hW=> ?_).trans he4 fun b hb hW=> ?_
     ·rcases hW with hW | hW
      ·omega
      ·exact hW
     ·have h1:(E.add nx (w.heap.size+1)).W b:=hrel2.le.W b (Nat.lt_of_lt_of_le hb he2.size) hW;rcases h1 with h1 | h1
      ·omega
      ·exact h1
    have hle:En.Le w E E':=hle3.trans hrel2.le he2.size;have hW':∀b,E'.W b→b<w.heap.size+2→b=w.heap.size+1∨E.W b:=fun b hW hb=>hrel2.le.W b (by simp;omega) hW;refine hk _ hR4 ⟨fun t=> ?_,hR4,hrel.ext.trans hext (fun b hb hW=>hrel.le.W b hb hW),hrel.le.trans hle hrel.ext.size,⟨?_,fun d hd=> ?_⟩,hrel.size⟩
    ·exact(hrel.slots t).ext hext hle
    ·refine List.nodup_cons.2 ⟨fun hmem=> ?_,hrel.defers.nodup⟩;obtain⟨D,hd,h1,_⟩:=hrel.defers.each _ hmem;injection hd with hd;injection hd with hd;have:=(Array.getElem?_eq_some_iff.1 h1).1;omega
    ·rcases List.mem_cons.1 hd with rfl | hd
     ·have hDW:¬E'.W w.heap.size:=fun hW=>by
       rcases hW' _ hW (by omega)with h | h
       ·omega
       ·exact absurd ((hrel.rel.W _).1 h) fun⟨i,o,h1,_⟩=>by have:=hrel.rel.lt i _ h1;omega
      refine⟨w.heap.size,rfl,?_,hDW,hrel.ext.size⟩;rw[jT _ hDne];rw[hrel2.ext.same w.heap.size (by simp;omega) (fun hW=> ?_)]
      ·exact hD2
      ·rcases hW with hW | hW
       ·omega
       ·exact absurd ((hrel.rel.W _).1 hW) fun⟨i,o,h1,_⟩=>by have:=hrel.rel.lt i _ h1;omega
     ·exact(hrel.defers.ext hext (fun b hb hW=>hle.W b hb hW)).each d hd
   have hfr':∀st pd,G' nx=some (L.o st pd)→bU (G'.upd nx (L.o .exhausted pd)) nx':=fun st pd hG' i hi=>by
    have hne:i≠nx:=fun e=>(by have:=hfr i hi;rw[e,hG']at this;cases this);rw[Hp.upd_ne _ _ hne];exact hfr i hi
   rcases hP with⟨hG',hk⟩ | ⟨hG',hk⟩ | ⟨i,hG',hk⟩ | ⟨i,hG',hk⟩
   ·exact fin _ _ (by decide) hG' fun w4 _ hr4=>hQ _ _ _ _ _ _ _ hk (hfr' _ _ hG') hr4
   ·exact fin _ _ (by decide) hG' fun w4 _ hr4=>wpIn_ret (hQ _ _ _ _ _ _ _ hk (hfr' _ _ hG') hr4)
   ·exact fin _ _ (by decide) hG' fun w4 _ hr4=>wpIn_exit (hQ _ _ _ _ _ _ _ hk (hfr' _ _ hG') hr4)
   ·exact fin _ _ (by decide) hG' fun w4 _ hr4=>wpIn_goto (hQ _ _ _ _ _ _ _ hk (hfr' _ _ hG') hr4)
  rcases he with rfl | rfl<;>exact key
end
section
variable {P:Program} [Gl P] {N:Nat} {K:Exit→KS} {s:Sl} {G:Hp} {nx:Nat}
theorem jR {a b c:Code} (h:AW P N (.seq a (.seq b c)) K s G nx):AW P N (.seq (.seq a b) c) K s G nx:=by
 have e:AW P N (.seq (.seq a b) c) K=AW P N (.seq a (.seq b c)) K:=by
  show AW P N a _=AW P N a _;congr 1;funext e;cases e<;>rfl
 rw[e];exact h
theorem yK {id:Nat} {ops:Array Oper} {b:Code} (hr:uf ops=false) (h:∀K':KS,(∀s G nx,AW P N b K s G nx→K' s G nx)→uQ P N ops false ops.toList K' s G nx):AW P N (.seq (.region id ops false) b) K s G nx:=
 ⟨fun h=>(by cases h),by rw[uz hr];exact h _ fun _ _ _ h=>h⟩
theorem yh {id:Nat} {ops:Array Oper} {b:Code} (hr:uf ops=false) (hd:tY ops=true) (h:∀K':KS,(∀s G nx,AW P N b K s G nx→K' s G nx)→uQ P N ops true ops.toList K' s G nx):AW P N (.seq (.region id ops true) b) K s G nx:=
 ⟨fun _=> .inl hd,by rw[uz hr];exact h _ fun _ _ _ h=>h⟩
theorem fH {id:Nat} {ops:Array Oper} {b:Code} (p:Option Tmp) (qs:List Tmp) (hr:uf ops=false) (hd:vT P ops p qs=true) (hS:wX s p qs) (h:∀K':KS,(∀s G nx,AW P N b K s G nx→K' s G nx)→uQ P N ops true ops.toList K' s G nx):AW P N (.seq (.region id ops true) b) K s G nx:=
 ⟨fun _=> .inr ⟨p,qs,hd,hS⟩,by rw[uz hr];exact h _ fun _ _ _ h=>h⟩
theorem IB {id:Nat} {ops:Array Oper} {d:Bool} {b:Code} (hd:d=true→tY ops=true) (h:∀K':KS,(∀s G nx,AW P N b K s G nx→K' s G nx)→qK P N ops d ops.toList K' s G nx):AW P N (.seq (.region id ops d) b) K s G nx:=
 ⟨fun hx=> .inl (hd hx),h _ fun _ _ _ h=>h⟩
theorem Fq {c:Operand} {a b r:Code} (t:Bool) (hc:evX s c=.v (.bool t)) (h1:t=true→AW P N (.seq a r) K s G nx) (h2:t=false→AW P N (.seq b r) K s G nx):AW P N (.seq (.cond c a b) r) K s G nx:=by
 refine .inl ⟨t,hc,?_⟩;cases t with
 | true=>exact h1 rfl
 | false=>exact h2 rfl
theorem dL {a:Code} (h:AW P N (.seq a .skip) K s G nx):AW P N a K s G nx:=by
 have e:AW P N (.seq a .skip) K=AW P N a K:=by
  show AW P N a _=AW P N a _;congr 1;funext e;cases e<;>rfl
 rw[←e];exact h
theorem pR {r:Code} (h:AW P N r K s G nx):AW P N (.seq .skip r) K s G nx:=h
theorem aA {a b c:Code} (h:AW P N (.seq a (.seq b c)) K s G nx):AW P N (.seq (.seq a b) c) K s G nx:=jR h
theorem aK {r:Code} (h:AW P N r K s G nx):AW P N (.seq .skip r) K s G nx:=pR h
theorem aR {id:Nat} {ops:Array Oper} {b:Code} (h:∀K':KS,(∀s G nx,AW P N b K s G nx→K' s G nx)→uQ P N ops false ops.toList K' s G nx) (hr:uf ops=false:=by decide+kernel):AW P N (.seq (.region id ops false) b) K s G nx:=yK hr h
theorem aQ {id:Nat} {ops:Array Oper} {b:Code} (h:∀K':KS,(∀s G nx,AW P N b K s G nx→K' s G nx)→uQ P N ops true ops.toList K' s G nx) (hr:uf ops=false:=by decide+kernel) (hd:tY ops=true:=by decide+kernel):AW P N (.seq (.region id ops true) b) K s G nx:=yh hr hd h
theorem aS {id:Nat} {ops:Array Oper} (h:∀K':KS,(∀s G nx,AW P N .skip K s G nx→K' s G nx)→uQ P N ops false ops.toList K' s G nx) (hr:uf ops=false:=by decide+kernel):AW P N (.region id ops false) K s G nx:=dL (yK hr h)
theorem aT {id:Nat} {ops:Array Oper} (h:∀K':KS,(∀s G nx,AW P N .skip K s G nx→K' s G nx)→uQ P N ops true ops.toList K' s G nx) (hr:uf ops=false:=by decide+kernel) (hd:tY ops=true:=by decide+kernel):AW P N (.region id ops true) K s G nx:=dL (yh hr hd h)
theorem aj (h:K .normal s G nx):AW P N .skip K s G nx:=h
theorem aJ {r:Code} (h:K .ret s G nx):AW P N (.seq .ret r) K s G nx:=h
theorem aF (h:K .ret s G nx):AW P N .ret K s G nx:=h
theorem bG {id:Nat} {r:Code} (h:K (.exit id) s G nx):AW P N (.seq (.exit id) r) K s G nx:=h
theorem PY {id:Nat} (h:K (.exit id) s G nx):AW P N (.exit id) K s G nx:=h
def au (P:Program) [Gl P] (N:Nat) (id:Nat) (r:Code) (K:Exit→KS):Exit→KS
 | .normal=>AW P N r K
 | .exit id'=>if id'=id then AW P N r K else K (.exit id')
 | e=>K e
theorem aB {id:Nat} {a r:Code} (h:AW P N a (au P N id r K) s G nx):AW P N (.seq (.block id a) r) K s G nx:=by
 have e:AW P N (.seq (.block id a) r) K=AW P N a (au P N id r K):=by
  show AW P N a _=AW P N a _;congr 1;funext e;cases e<;>rfl
 rw[e];exact h
theorem ah {id:Nat} {r:Code} (h:AW P N r K s G nx):au P N id r K .normal s G nx:=h
theorem aH {id:Nat} {r:Code} (h:AW P N r K s G nx):au P N id r K (.exit id) s G nx:=by
 show(if id=id then AW P N r K else _) s G nx;rw[if_pos rfl];exact h
theorem eF {id id':Nat} {r:Code} (hne:id'≠id) (h:K (.exit id') s G nx):au P N id r K (.exit id') s G nx:=by
 show(if id'=id then AW P N r K else K (.exit id')) s G nx;rw[if_neg hne];exact h
theorem dP {id:Nat} {r:Code} (h:K .ret s G nx):au P N id r K .ret s G nx:=h
def aG (I:KS) (m:Nat) (μ:Sl→Hp→Nat→Nat) (K:Exit→KS):Exit→KS
 | .normal=>fun s G nx=>I s G nx∧μ s G nx<m
 | e=>K e
theorem bH {a:Code} (I:KS) (μ:Sl→Hp→Nat→Nat) (h0:I s G nx) (h:∀s G nx,bU G nx→I s G nx→AW P N a (aG I (μ s G nx) μ K) s G nx):AW P N (.loop a) K s G nx:=by
 refine⟨I,μ,h0,fun s G nx hf hI=> ?_⟩;have e:(fun e s' G' nx'=>match e with
   | .normal=>I s' G' nx'∧μ s' G' nx'<μ s G nx
   | e=>K e s' G' nx')=aG I (μ s G nx) μ K:=by
  funext e;cases e<;>rfl
 have:=h s G nx hf hI;rw[←e]at this;exact this
theorem ay {I:KS} {m:Nat} {μ:Sl→Hp→Nat→Nat} (h:I s G nx) (hm:μ s G nx<m):aG I m μ K .normal s G nx:=⟨h,hm⟩
theorem aI {I:KS} {m id:Nat} {μ:Sl→Hp→Nat→Nat} (h:K (.exit id) s G nx):aG I m μ K (.exit id) s G nx:=h
theorem ng {I:KS} {m:Nat} {μ:Sl→Hp→Nat→Nat} (h:K .ret s G nx):aG I m μ K .ret s G nx:=h
@[simp] theorem upd_app (s:Sl) (i:Nat) (o:AV) (j:Nat):(s.upd i o) j=if j=i then o else s j:=rfl
@[simp] theorem hupd_app (s:Hp) (i:Nat) (o:AObj) (j:Nat):(s.upd i o) j=if j=i then some o else s j:=rfl
@[simp] theorem put_some (s:Sl) (i:Nat) (o:AV):s.put (some i) o=s.upd i o:=rfl
@[simp] theorem put_none (s:Sl) (o:AV):s.put none o=s:=rfl
attribute [simp] uQ xG wantA callA UG evC Q5 clsOf evX dstOK AV.cells AV.one AV.mk Cj Value.oneCell' bY shiftT CV vO BR FB seesA iH splice goInt
@[simp] theorem conc_v (x:Value):zf (.v x)=some x:=rfl
@[simp] theorem alive_var (t:TypeId) (cs:List AV):(AObj.var t cs).alive=true:=rfl
@[simp] theorem alive_row (t:TypeId) (cs:List AV):(AObj.row t cs).alive=true:=rfl
@[simp] theorem alive_frz (t:TypeId) (cs:List AV):(AObj.frz t cs).alive=true:=rfl
@[simp] theorem alive_map (es:List (Value×AV)):(AObj.map es).alive=true:=rfl
@[simp] theorem alive_dead:AObj.dead.alive=false:=rfl
@[congr] theorem ACall_congr {d:Bool} {f f':FuncId} {as as':List AV} {cls cls':Nat} {K:AV→Hp→Nat→Prop} {G':Hp} {nx':Nat} (h1:f=f') (h2:as=as') (h3:cls=cls') (h4:G=G') (h5:nx=nx'):oW P d f as cls K G nx=oW P d f' as' cls' K G' nx':=by
 subst h1;subst h2;subst h3;subst h4;subst h5;rfl
@[simp] theorem thenK_app (K:KS) (s:Sl) (d:Option Tmp) (v:AV) (G:Hp) (nx:Nat):uq K s d v G nx=K (s.put d v) G nx:=rfl
theorem ak {d:Bool} {f:FuncId} {as ts:List AV} {cls:Nat} {K:AV→Hp→Nat→Prop} {r:AV} (hk:CallsOK P f ts r []) (hf:BR r=true) (ha:seesA P G as=some ts) (h:K r G nx):oW P d f as cls K G nx:=
 .inl ⟨_,_,_,ha,hk,⟨(KP hf nx).1,rfl⟩,by rw[(KP hf nx).2,dO];exact h⟩
theorem sH {d:Bool} {f:FuncId} {as ts:List AV} {cls:Nat} {K:AV→Hp→Nat→Prop} {r:AV} {J:Js} (hk:CallsOK P f ts r J) (hf:flatR r=true∧flatJ J=true) (ha:seesA P G as=some ts) (h:K (shiftT nx r) (addJ G nx J) (nx+J.length)):oW P d f as cls K G nx:=
 .inl ⟨_,_,_,ha,hk,hf,h⟩
theorem aO {d:Bool} {f:FuncId} {as ts:List AV} {cls:Nat} {K:AV→Hp→Nat→Prop} {r:AV} {J:Js} (hk:CallsOK P f ts r J) (ha:(argsOf P G as).map Prod.fst=some ts) (h:K (shiftT nx r) (addJ ((argsOf P G as).elim G Prod.snd) nx J) (nx+J.length)):oW P d f as cls K G nx:=by
 obtain⟨⟨ts',G1⟩,h1,rfl⟩:=Option.map_eq_some_iff.1 ha;rw[h1]at h;exact .inr (.inl ⟨_,_,_,_,h1,hk,h⟩)
theorem BZ {d:Bool} {f:FuncId} {as:List AV} {cls:Nat} {K:AV→Hp→Nat→Prop} {v:AV} {G':Hp} (nx':Nat) (hk:bU G nx→InlOK P f as G v G') (hg:bU G nx→(cls=3∨Grows G G')∧bU G' nx') (h:K v G' nx') (hne:as≠[]∧Gl.inl P f=true:=by exact⟨by simp,rfl⟩):oW P d f as cls K G nx:=
 .inr (.inr (.inl ⟨hne,v,G',nx',fun hf=>⟨hk hf,hg hf⟩,h⟩))
theorem dH {f:FuncId} {as:List AV} {cls:Nat} {K:AV→Hp→Nat→Prop} (hk:L9 P f as K G nx):oW P false f as cls K G nx:=.inr (.inr (.inr ⟨rfl,hk⟩))
theorem BM {o:AObj} (h:bU G nx):bU (G.upd nx o) (nx+1):=fun i hi=>by
 rw[Hp.upd_ne _ _ (by omega)];exact h i (by omega)
theorem cO (h:bU G nx) {j:Nat} {o:AObj} (hG:G j=some o):j<nx:=by
 rcases Nat.lt_or_ge j nx with h1 | h1
 ·exact h1
 ·rw[h j h1]at hG;cases hG
@[simp] theorem nilCmp_v (op:BinOp) (t:TypeId) (x:Value) (y:AV):qw P op t (.v x) y=none:=rfl
@[simp] theorem nilCmp_agg (op:BinOp) (t:TypeId) (cs:List AV) (y:AV):qw P op t (.agg cs) y=none:=rfl
@[simp] theorem nilCmp_row (op:BinOp) (t:TypeId) (id n:Nat) (y:AV):qw P op t (.row id n) y=none:=rfl
end
section
variable {P:Program} [Gl P] {N:Nat} {s:Sl} {G:Hp} {nx:Nat}
theorem E5.mono {E:En} {w:World} {K K':AV→Hp→Nat→Prop} {e:Ending} {w':World} (h:E5 P E w K e w') (hk:∀v G nx,K v G nx→K' v G nx):E5 P E w K' e w':=by
 obtain⟨u,v,E',G',nx',h1,h2,h3,h4,h5,h6,h7⟩:=h;exact⟨u,v,E',G',nx',h1,h2,h3,h4,h5,h6,hk _ _ _ h7⟩
theorem L9.mono {f:FuncId} {as:List AV} {K K':AV→Hp→Nat→Prop} (h:L9 P f as K G nx) (hk:∀v G nx,K v G nx→K' v G nx):L9 P f as K' G nx:=
 ⟨h.1,fun E w us hR hf hx=>(h.2 E w us hR hf hx).mono fun e w' h=>h.mono hk⟩
theorem DT.mono {id:Nat} {as:List AV} {K K':AV→Hp→Nat→Prop} (h:DT P id as K G nx) (hk:∀v G nx,K v G nx→K' v G nx):DT P id as K' G nx:=fun E w us b hR hf hb hx=>by
 obtain⟨fn,tmps,assign,body,h1,h2⟩:=h E w us b hR hf hb hx;exact⟨fn,tmps,assign,body,h1,fun n=>RoundIn.mono (h2 n) fun e w' h=>h.mono hk⟩
theorem oW.mono {d:Bool} {f:FuncId} {as:List AV} {cls:Nat} {K K':AV→Hp→Nat→Prop} (h:oW P d f as cls K G nx) (hk:∀v G nx,K v G nx→K' v G nx):oW P d f as cls K' G nx:=by
 rcases h with⟨ts,r,J,h1,h2,h3,h4⟩ | ⟨ts,G1,r,J,h1,h2,h3⟩ | ⟨hne,v,G',nx',h1,h2⟩ | ⟨h1,h2⟩
 ·exact .inl ⟨ts,r,J,h1,h2,h3,hk _ _ _ h4⟩
 ·exact .inr (.inl ⟨ts,G1,r,J,h1,h2,hk _ _ _ h3⟩)
 ·exact .inr (.inr (.inl ⟨hne,v,G',nx',h1,hk _ _ _ h2⟩))
 ·exact .inr (.inr (.inr ⟨h1,h2.mono hk⟩))
theorem xG.mono {ops:Array Oper} {d:Bool} {o:Oper} {K K':KS} (h:xG P N ops d o K s G nx) (hk:∀s G nx,K s G nx→K' s G nx):xG P N ops d o K' s G nx:=by
 obtain⟨h0,h⟩:=h;refine⟨h0,?_⟩;split at h
 ·split at h
  ·exact h.mono fun v G nx h=>hk _ _ _ h
  ·split at h
   ·exact⟨h.1,h.2.1,h.2.2.mono fun v G nx h=>hk _ _ _ h⟩
   ·split at h
    ·exact hk _ _ _ h
    ·exact h.elim
 ·exact hk _ _ _ h
 ·exact h.elim
theorem uQ.mono {ops:Array Oper} {d:Bool} {K K':KS} (hk:∀s G nx,K s G nx→K' s G nx):∀(os:List Oper) {s:Sl} {G:Hp} {nx:Nat},uQ P N ops d os K s G nx→uQ P N ops d os K' s G nx
 | [],_,_,_,h=>hk _ _ _ h
 | o::os,_,_,_,h=>xG.mono h fun s G nx h=>uQ.mono hk os h
theorem kJ.mono {ops:Array Oper} {d:Bool} {o:Oper} {K K':KS} (h:kJ P N ops d o K s G nx) (hk:∀s G nx,K s G nx→K' s G nx):kJ P N ops d o K' s G nx:=by
 unfold kJ at h⊢;split
 ·rename_i hm;rw[if_pos hm]at h;obtain⟨h0,h⟩:=h;refine⟨h0,?_⟩;split at h
  ·split at h
   ·exact hk _ _ _ h
   ·exact h.elim
  ·exact hk _ _ _ h
  ·exact h.elim
 ·rename_i hm;rw[if_neg hm]at h;exact h.mono hk
theorem qK.mono {ops:Array Oper} {d:Bool} {K K':KS} (hk:∀s G nx,K s G nx→K' s G nx):∀(os:List Oper) {s:Sl} {G:Hp} {nx:Nat},qK P N ops d os K s G nx→qK P N ops d os K' s G nx
 | [],_,_,_,h=>hk _ _ _ h
 | o::os,_,_,_,h=>kJ.mono h fun s G nx h=>qK.mono hk os h
theorem KW:∀(c:Code) {K K':Exit→KS} {s:Sl} {G:Hp} {nx:Nat},(∀e s G nx,K e s G nx→K' e s G nx)→AW P N c K s G nx→AW P N c K' s G nx:=by
 intro c;induction c with
 | skip=>intro K K' s G nx hk h;exact hk _ _ _ _ h
 | label l=>intro K K' s G nx hk h;exact hk _ _ _ _ h
 | exit id=>intro K K' s G nx hk h;exact hk _ _ _ _ h
 | goto l=>intro K K' s G nx hk h;exact hk _ _ _ _ h
 | ret=>intro K K' s G nx hk h;exact hk _ _ _ _ h
 | region id ops d=>intro K K' s G nx hk h;exact⟨h.1,qK.mono (hk .normal) _ h.2⟩
 | seq x y ihx ihy=>
  intro K K' s G nx hk h;refine ihx (fun e s G nx h=> ?_) h;cases e with
  | normal=>exact ihy hk h
  | _=>exact hk _ _ _ _ h
 | cond c x y ihx ihy=>
  intro K K' s G nx hk h;rcases h with⟨t,ht,h⟩ | ⟨ht,h1,h2⟩
  ·refine .inl ⟨t,ht,?_⟩;cases t with
   | true=>exact ihx hk h
   | false=>exact ihy hk h
  ·exact .inr ⟨ht,ihx hk h1,ihy hk h2⟩
 | block id x ih=>
  intro K K' s G nx hk h;refine ih (fun e s G nx h=> ?_) h;cases e with
  | exit id'=>
   simp only at h⊢;split
   ·rename_i hid;rw[if_pos hid]at h;exact hk _ _ _ _ h
   ·rename_i hid;rw[if_neg hid]at h;exact hk _ _ _ _ h
  | _=>exact hk _ _ _ _ h
 | loop x ih=>
  intro K K' s G nx hk h;obtain⟨I,μ,h0,hr⟩:=h;refine⟨I,μ,h0,fun s G nx hf hI=>ih (fun e s' G' nx' h=> ?_) (hr s G nx hf hI)⟩;cases e with
  | normal=>exact h
  | _=>exact hk _ _ _ _ h
 | rangeFunc g ps assign body=>
  intro K K' s G nx hk h;exact fun n E1 w1 a w E Q hrel hf hQ=>h n E1 w1 a w E Q hrel hf fun e s' G' nx' a' w' E' h1 h2 h3=>hQ e s' G' nx' a' w' E' (hk _ _ _ _ h1) h2 h3
 | scope x ih=>
  intro K K' s G nx hk h;rcases h with h | h
  ·refine .inl (ih (fun e s G nx h=> ?_) h);cases e with
   | goto l=>exact h.elim
   | _=>exact hk _ _ _ _ h
  ·exact .inr fun n E1 w1 a w E Q hrel hf hQ=>h n E1 w1 a w E Q hrel hf fun e s' G' nx' a' w' E' h1 h2 h3=>hQ e s' G' nx' a' w' E' (hk _ _ _ _ h1) h2 h3
 | _=>intro K K' s G nx hk h;exact h.elim
theorem fC {a b:Code} {K:Exit→KS} (I:KS) (h1:AW P N a (fun e s' G' nx'=>e=.normal∧I s' G' nx') s G nx) (h2:∀s' G' nx',I s' G' nx'→AW P N b K s' G' nx'):AW P N (.seq a b) K s G nx:=
 KW a (fun e s' G' nx' h=>by obtain⟨rfl,h⟩:=h;exact h2 _ _ _ h) h1
def DR (I:KS) (K:Exit→KS):Exit→KS:=fun e s G nx=>match e with
 | .normal=>I s G nx
 | e=>K e s G nx
theorem Ar {a b:Code} {K:Exit→KS} (I:KS) (h1:AW P N a (DR I K) s G nx) (h2:∀s' G' nx',I s' G' nx'→AW P N b K s' G' nx'):AW P N (.seq a b) K s G nx:=
 KW a (fun e s' G' nx' h=>by
  cases e with
  | normal=>exact h2 _ _ _ h
  | _=>exact h) h1
theorem kX {I:KS} {K:Exit→KS} (h:I s G nx):AW P N .skip (DR I K) s G nx:=h
def lH (K:Exit→KS):Exit→KS:=fun e=>match e with
 | .goto _=>fun _ _ _=>False
 | e=>K e
theorem wC {a:Code} {K:Exit→KS} (h:AW P N a (lH K) s G nx):AW P N (.scope a) K s G nx:=.inl h
theorem Ae {l:Nat} {r:Code} {K:Exit→KS} (h:AW P N r K s G nx):AW P N (.seq (.label l) r) K s G nx:=h
theorem fV {c:Code} {K:Exit→KS} (I:KS) (h1:I s G nx) (h2:∀s' G' nx',I s' G' nx'→AW P N c K s' G' nx'):AW P N c K s G nx:=h2 _ _ _ h1
theorem bP {I:KS} (h:I s G nx):AW P N .skip (fun e s' G' nx'=>e=.normal∧I s' G' nx') s G nx:=⟨rfl,h⟩
end
class Wid {α:Type} (c:α→List AV) (w:outParam Nat):Prop where
 len:∀a,(c a).length=w
 pos:0<w
def flat {α:Type} (c:α→List AV) (l:List α):List AV:=l.flatMap c
def rowT {α:Type} (c:α→List AV) (l:List α):AV:=.sl l.length (flat c l)
def nth {α:Type} [Inhabited α] (l:List α) (i:Nat):α:=l.getD i default
def gU (cs:List AV) (off k:Nat):Option (List AV):=if off+k≤cs.length then some ((cs.drop off).take k)else none
def eaR {α:Type} (c:α→List AV) (w:Nat) (l:List α) (i f:Nat):AV:=.ea (rowT c l) (i*w+f)
def eaO (id n w i f:Nat):AV:=.ea (.row id n) (i*w+f)
def vG:AV→Nat→Option AV
 | .ptr id o,off=>some (.ptr id (o+off))
 | .ea b o,off=>some (.ea b (o+off))
 | .cp cs o,off=>some (.cp cs (o+off))
 | _,_=>none
section
variable {P:Program} [Gl P] {s:Sl} {G:Hp} {nx:Nat} {α:Type} {c:α→List AV} {w:Nat} {l:List α}
theorem bZ [Inhabited α] {i:Nat} (h:i<l.length):nth l i=l[i]:=by simp[nth,List.getD_eq_getElem?_getD,h]
theorem eY [Wid c w]:(flat c l).length=l.length*w:=by
 unfold flat;induction l with
 | nil=>simp
 | cons a l ih=>rw[List.flatMap_cons,List.length_append,ih,Wid.len (c:=c),List.length_cons,Nat.add_mul];omega
theorem NT [Inhabited α] [Wid c w] {i f:Nat} (h:i<l.length) (hf:f≤w):∃r,(flat c l).drop (i*w+f)=(c (nth l i)).drop f++r:=by
 unfold flat;induction l generalizing i with
 | nil=>simp at h
 | cons a l ih=>
  rw[List.flatMap_cons];cases i with
  | zero=>
   refine⟨l.flatMap c,?_⟩;rw[Nat.zero_mul,Nat.zero_add,List.drop_append_of_le_length (by rw[Wid.len (c:=c)];exact hf)];rfl
  | succ i=>
   obtain⟨r,hr⟩:=ih (i:=i) (by simpa using h);refine⟨r,?_⟩;rw[List.drop_append,List.drop_eq_nil_of_le (by rw[Wid.len (c:=c),Nat.add_mul];omega),List.nil_append,Wid.len (c:=c)];have:(i+1)*w+f-w=i*w+f:=(by rw[Nat.add_mul];omega);rw[this,hr];rfl
theorem vI [Inhabited α] [Wid c w] {i f k:Nat} (h:i<l.length) (hk:f+k≤w):gU (flat c l) (i*w+f) k=gU (c (nth l i)) f k:=by
 obtain⟨r,hr⟩:=NT (c:=c) h (show f≤w by omega);have hl:((c (nth l i)).drop f).length=w-f:=(by rw[List.length_drop,Wid.len (c:=c)]);have hlt:i*w+w≤l.length*w:=(by rw[←Nat.succ_mul];exact Nat.mul_le_mul_right _ h);unfold gU;rw[if_pos (by rw[eY];omega),if_pos (by rw[Wid.len (c:=c)];exact hk),hr,List.take_append_of_le_length (by omega)]
theorem zy {t:TypeId} {b:Bool} {k:Nat} (h:tyI P t=some (b,k)):0<k:=(jF h).2.2.1
@[simp] theorem evLoad_ptr (t:TypeId) (id off:Nat):iG P G t (.ptr id off)=match tyI P t,G id with
  | some (b,k),some (.var _ cs)=>(gU cs off k).map (AV.mk b)
  | _,_=>none:=by
 unfold iG;cases hT:tyI P t with
 | none=>rfl
 | some r=>
  obtain⟨b,k⟩:=r;have:=zy hT;cases hG:G id with
  | none=>simp[rC,hG]
  | some o=>
   cases o<;>simp[rC,hG,gU];rename_i cs;by_cases h:off+k≤cs.length
   ·rw[if_pos h,if_pos (by omega)]
   ·rw[if_neg h,if_neg (by omega)]
@[simp] theorem evStore_ptr (t:TypeId) (id off:Nat) (v:AV):jA P G t (.ptr id off) v=match tyI P t with
  | none=>none
  | some (_,k)=>if v.cells.length=k∧v.cells.all AV.one=true then
    match G id with
    | some (.var t0 cs)=>if off+k≤cs.length then some (G.upd id (.var t0 (splice cs off v.cells)))else none
    | _=>none
   else none:=by
 unfold jA;cases tyI P t with
 | none=>rfl
 | some q=>rfl
@[simp] theorem evLoad_cp (t:TypeId) (off:Nat) (cs:List AV):iG P G t (.cp cs off)=match tyI P t with
  | some (b,k)=>(gU cs off k).map (AV.mk b)
  | none=>none:=by
 unfold iG;cases hT:tyI P t with
 | none=>rfl
 | some r=>
  obtain⟨b,k⟩:=r;have:=zy hT;simp[rC,gU];by_cases h:off+k≤cs.length
  ·rw[if_pos h,if_pos (by omega)]
  ·rw[if_neg h,if_neg (by omega)]
@[simp] theorem seeA_v (x:Value):rD P G (.v x)=some (.v x):=rfl
@[simp] theorem seeA_sl (n:Nat) (cs:List AV):rD P G (.sl n cs)=some (.sl n cs):=rfl
@[simp] theorem seeA_rowT:rD P G (rowT c l)=some (rowT c l):=rfl
@[simp] theorem seeA_row (id n:Nat):rD P G (.row id n)=bJ P G (.row id n):=rfl
@[simp] theorem seeA_cp (cs:List AV) (off:Nat):rD P G (.cp cs off)=some (.cp cs off):=rfl
@[simp] theorem seeA_agg (cs:List AV):rD P G (.agg cs)=(iH P G cs).map .agg:=rfl
@[simp] theorem seeA_fn (f:Nat) (cs:List AV):rD P G (.fn f cs)=(iH P G cs).map (.fn f):=rfl
@[simp] theorem lookA_v (x:Value):lookA P G (.v x)=some (.v x):=rfl
@[simp] theorem lookA_sl (n:Nat) (cs:List AV):lookA P G (.sl n cs)=some (.sl n cs):=rfl
@[simp] theorem lookA_rowT:lookA P G (rowT c l)=some (rowT c l):=rfl
@[simp] theorem lookA_row (id n:Nat):lookA P G (.row id n)=bJ P G (.row id n):=rfl
@[simp] theorem lookA_cp (cs:List AV) (off:Nat):lookA P G (.cp cs off)=some (.cp cs off):=rfl
@[simp] theorem lookA_ptr (id off:Nat):lookA P G (.ptr id off)=match G id with
  | some (.var _ cs)=>match cs.mapM (fun a=>match a with
    | .v x=>some (.v x)
    | .sl n cs=>some (.sl n cs)
    | _=>none)with
   | some ts=>if 0<ts.length then some (.cp ts off)else none
   | none=>none
  | _=>none:=rfl
@[simp] theorem adr_cp (cs:List AV) (off:Nat):adr G (.cp cs off)=decide (off<cs.length):=by
 unfold adr;simp only[rC];by_cases h:off<cs.length
 ·have:(cs.drop off).length≠0:=(by rw[List.length_drop];omega);cases hd:cs.drop off with
  | nil=>rw[hd]at this;simp at this
  | cons a r=>simp[h]
 ·rw[List.drop_eq_nil_of_le (by omega)];simp[h]
theorem AZ (t:TypeId) (n off:Nat) (cs:List AV):iG P G t (.ea (.sl n cs) off)=match tyI P t with
  | some (b,k)=>(gU cs off k).map (AV.mk b)
  | none=>none:=by
 unfold iG;cases hT:tyI P t with
 | none=>rfl
 | some r=>
  obtain⟨b,k⟩:=r;have:=zy hT;simp[rC,gU];by_cases h:off+k≤cs.length
  ·rw[if_pos h,if_pos (by omega)]
  ·rw[if_neg h,if_neg (by omega)]
theorem JM (t:TypeId) (id n off:Nat):iG P G t (.ea (.row id n) off)=match tyI P t,G id with
  | some (b,k),some (.row _ cs)=>(gU cs off k).map (AV.mk b)
  | some (b,k),some (.frz _ cs)=>(gU cs off k).map (AV.mk b)
  | some (b,k),some (.var _ cs)=>(gU cs off k).map (AV.mk b)
  | _,_=>none:=by
 unfold iG;cases hT:tyI P t with
 | none=>rfl
 | some r=>
  obtain⟨b,k⟩:=r;have:=zy hT;cases hG:G id with
  | none=>simp[rC,hG]
  | some o=>
   cases o<;>simp[rC,hG,gU];all_goals
    rename_i cs;by_cases h:off+k≤cs.length
    ·rw[if_pos h,if_pos (by omega)]
    ·rw[if_neg h,if_neg (by omega)]
@[simp] theorem evLoad_eaR [Inhabited α] [Wid c w] (t:TypeId) {i f:Nat} (h:i<l.length):iG P G t (eaR c w l i f)=match tyI P t with
  | some (b,k)=>if f+k≤w then(gU (c (nth l i)) f k).map (AV.mk b)else iG P G t (eaR c w l i f)
  | none=>none:=by
 cases hT:tyI P t with
 | none=>unfold eaR rowT;rw[AZ,hT]
 | some r=>
  obtain⟨b,k⟩:=r;simp only;split
  ·rename_i hk;unfold eaR rowT;rw[AZ,hT];show Option.map (AV.mk b) (gU (flat c l) (i*w+f) k)=_;rw[vI (c:=c) h hk]
  ·rfl
@[simp] theorem lenC_str (t:TypeId) (b:ByteArray):zJ P G t (.v (.string b))=if isStr P t=true then some (.v (.int .i64 b.size))else none:=rfl
@[simp] theorem lenC_nil (t:TypeId):zJ P G t (.v (.slice none 0 0))=match elI P t with
  | some _=>some (.v (.int .i64 0))
  | none=>none:=rfl
@[simp] theorem lenC_sl (t:TypeId) (n:Nat) (cs:List AV):zJ P G t (.sl n cs)=match elI P t with
  | some _=>some (.v (.int .i64 n))
  | none=>none:=rfl
@[simp] theorem lenC_row (t:TypeId) (id n:Nat):zJ P G t (.row id n)=match G id,elI P t with
  | some o,some _=>if o.alive=true then some (.v (.int .i64 n))else none
  | _,_=>none:=by
 simp only[zJ,QZ];cases G id with
 | none=>rfl
 | some o=>cases o<;>cases elI P t<;>rfl
@[simp] theorem zk (x:Value):bJ P G (.v x)=some (.v x):=rfl
@[simp] theorem wJ (n:Nat) (cs:List AV):bJ P G (.sl n cs)=some (.sl n cs):=rfl
theorem bQ (id n:Nat):bJ P G (.row id n)=match G id with
  | some (.row e cs)=>if n*P.cellsOf e≤cs.length then some (.sl n (cs.take (n*P.cellsOf e)))else none
  | some (.frz e cs)=>if n*P.cellsOf e≤cs.length then some (.sl n (cs.take (n*P.cellsOf e)))else none
  | _=>none:=rfl
@[simp] theorem argsOf_nil:argsOf P G []=some ([],G):=rfl
@[simp] theorem argsOf_v (x:Value) (r:List AV):argsOf P G (.v x::r)=(argsOf P G r).map fun q=>(.v x::q.1,q.2):=by
 simp only[argsOf,bJ,bT];cases argsOf P G r<;>rfl
@[simp] theorem argsOf_rowT (r:List AV):argsOf P G (rowT c l::r)=(argsOf P G r).map fun q=>(rowT c l::q.1,q.2):=by
 simp only[rowT,argsOf,bJ,bT];cases argsOf P G r<;>rfl
@[simp] theorem argsOf_agg (cs r:List AV):argsOf P G (.agg cs::r)=match bY P G cs with
  | some (ts,G1)=>(argsOf P G1 r).map fun q=>(.agg ts::q.1,q.2)
  | none=>none:=by
 simp only[argsOf];cases bY P G cs with
 | none=>rfl
 | some q=>obtain⟨ts,G1⟩:=q;simp only;cases argsOf P G1 r<;>rfl
@[simp] theorem argsOf_row (id n:Nat) (r:List AV):argsOf P G (.row id n::r)=match bJ P G (.row id n)with
  | some t=>(argsOf P (bT G (.row id n)) r).map fun q=>(t::q.1,q.2)
  | none=>none:=by
 simp only[argsOf];cases bJ P G (.row id n)with
 | none=>rfl
 | some t=>simp only;cases argsOf P (bT G (.row id n)) r<;>rfl
@[simp] theorem frzOf_v (x:Value):bT G (.v x)=G:=rfl
@[simp] theorem frzOf_sl (n:Nat) (cs:List AV):bT G (.sl n cs)=G:=rfl
theorem mV (id n:Nat):bT G (.row id n)=match G id with
  | some (.row e (c::cs))=>G.upd id (.frz e (c::cs))
  | _=>G:=rfl
@[simp] theorem lenC_rowT (t:TypeId):zJ P G t (rowT c l)=match elI P t with
  | some _=>some (.v (.int .i64 l.length))
  | none=>none:=rfl
@[simp] theorem one_rowT:AV.one (rowT c l)=true:=rfl
@[simp] theorem cells_rowT:AV.cells (rowT c l)=[rowT c l]:=rfl
@[simp] theorem treeOf_rowT:bJ P G (rowT c l)=some (rowT c l):=rfl
@[simp] theorem frzOf_rowT:bT G (rowT c l)=G:=rfl
@[simp] theorem evIndexAddr_rowT [Wid c w] (t:TypeId) (k:IntKind) {n:Int} (h0:0≤n) (h1:n<l.length):fA P G t (rowT c l) (.v (.int k n))=match elI P t with
  | some (_,m,_,_)=>if m=w then some (eaR c w l n.toNat 0)else fA P G t (rowT c l) (.v (.int k n))
  | none=>none:=by
 cases hel:elI P t with
 | none=>unfold fA;rw[hel]
 | some q=>
  obtain⟨e,m,b,z⟩:=q;simp only;split
  ·rename_i hm;subst hm;unfold fA rowT eaR;rw[hel];have:0<(flat c l).length:=by
    rw[eY (w:=m)];exact Nat.mul_pos (by omega) (Wid.pos (c:=c))
   simp[h0,h1,this,rowT]
  ·rfl
@[simp] theorem adr_eaR [Wid c w] {i f:Nat} (h:i<l.length) (hf:f<w):adr G (eaR c w l i f)=true:=by
 have hlt:i*w+w≤l.length*w:=(by rw[←Nat.succ_mul];exact Nat.mul_le_mul_right _ h);unfold adr eaR rowT;simp only[rC];have hl:((flat c l).drop (i*w+f)).length≠0:=(by rw[List.length_drop,eY (w:=w)];omega);cases hd:(flat c l).drop (i*w+f)with
 | nil=>rw[hd]at hl;simp at hl
 | cons a r=>rfl
@[simp] theorem addOff_eaR (i f off:Nat):vG (eaR c w l i f) off=some (eaR c w l i (f+off)):=by simp[vG,eaR,Nat.add_assoc]
@[simp] theorem addOff_eaO (id n i f off:Nat):vG (eaO id n w i f) off=some (eaO id n w i (f+off)):=by simp[vG,eaO,Nat.add_assoc]
@[simp] theorem addOff_cp (cs:List AV) (o off:Nat):vG (.cp cs o) off=some (.cp cs (o+off)):=rfl
@[simp] theorem addOff_ptr (id o off:Nat):vG (.ptr id o) off=some (.ptr id (o+off)):=rfl
theorem xI (t:TypeId) (x:Operand) (f:Nat):iq P s G nx (.fieldAddr t x f)=match flI P t f with
  | some (off,_,_)=>if adr G (evX s x)=true then(vG (evX s x) off).map fun v=>(v,G,nx)else none
  | none=>none:=by
 simp only[iq];cases hf:flI P t f with
 | none=>rfl
 | some q=>
  obtain⟨off,b,k⟩:=q;simp only;split
  ·cases evX s x<;>rfl
  ·rfl
@[simp] theorem adr_ptr (id off:Nat):adr G (.ptr id off)=match G id with
  | some (.var _ cs)=>decide (off<cs.length)
  | _=>false:=by
 unfold adr;simp only[rC];cases G id with
 | none=>rfl
 | some o=>
  (cases o<;>try rfl);rename_i cs;simp only;by_cases h:off<cs.length
  ·have:(cs.drop off).length≠0:=(by rw[List.length_drop];omega);cases hd:cs.drop off with
   | nil=>rw[hd]at this;simp at this
   | cons a r=>simp[h]
  ·rw[List.drop_eq_nil_of_le (by omega)];simp[h]
end
section
variable {P:Program} [Gl P] {s:Sl} {G:Hp} {nx:Nat}
@[simp] theorem o_move (x:Operand):iq P s G nx (.move x)=some (evX s x,G,nx):=rfl
@[simp] theorem o_assign (x:Operand):iq P s G nx (.assign x)=some (evX s x,G,nx):=rfl
@[simp] theorem o_pick (c a b:Operand):iq P s G nx (.pick c a b)=match evX s c with
  | .v (.bool t)=>some (if t=true then evX s a else evX s b,G,nx)
  | _=>none:=rfl
@[simp] theorem o_alloc (t:TypeId):iq P s G nx (.alloc t)=match zrI P t with
  | some z=>some (.ptr nx 0,G.upd nx (.var t (z.map .v)),nx+1)
  | none=>none:=rfl
@[simp] theorem o_box (t:TypeId) (x:Operand):iq P s G nx (.box t x)=if(evX s x).cells.all AV.one=true then some (.ptr nx 0,G.upd nx (.var t (evX s x).cells),nx+1)else none:=rfl
@[simp] theorem o_build (t:TypeId) (ps:Array (Nat×Operand)):iq P s G nx (.build t ps)=match zrI P t,plI P t with
  | some z,some _=>match kY P s t (z.map .v) ps.toList with
   | some cs=>some (.agg cs,G,nx)
   | none=>none
  | _,_=>none:=rfl
@[simp] theorem o_buildSlice (t:TypeId) (n:Nat) (ps:Array (Nat×Operand)):iq P s G nx (.buildSlice t n ps)=match elI P t with
  | some (e,k,_,_)=>if ps.toList.map (·.1)=List.range n∧n*k≤16777216∧n≤16777216∧ps.toList.all (fun p=>decide ((evX s p.2).cells.length=k)&&(evX s p.2).cells.all AV.one)=true then
    match bY P G (ps.toList.flatMap fun p=>(evX s p.2).cells)with
    | some (ts,G')=>some (.row nx n,G'.upd nx (.row e ts),nx+1)
    | none=>if(ps.toList.flatMap fun p=>(evX s p.2).cells).any isFn=true∧0<n*k then some (.row nx n,G.upd nx (.var e (ps.toList.flatMap fun p=>(evX s p.2).cells)),nx+1)else none
   else none
  | none=>none:=rfl
@[simp] theorem o_load (t:TypeId) (a:Operand):iq P s G nx (.load t a)=(match tN P t a with
  | some v=>some v
  | none=>iG P G t (evX s a)).map fun v=>(v,G,nx):=rfl
@[simp] theorem evGlob_tmp (t:TypeId) (x:Tmp):tN P t (.tmp x)=none:=rfl
@[simp] theorem o_store (t:TypeId) (a v:Operand):iq P s G nx (.store t a v)=(jA P G t (evX s a) (evX s v)).map fun G'=>(.any,G',nx):=rfl
@[simp] theorem o_nilCheck (x:Operand):iq P s G nx (.nilCheck x)=if adr G (evX s x)=true then some (evX s x,G,nx)else match evX s x with
  | .fn f cs=>some (.fn f cs,G,nx)
  | _=>none:=rfl
@[simp] theorem o_binOp (op:BinOp) (t:TypeId) (x y:Operand) (z:TypeId):iq P s G nx (.binOp op t x y z)=match zf (evX s x),zf (evX s y)with
  | some a,some b=>(iZ P op t a b).map fun r=>(.v r,G,nx)
  | _,_=>none:=rfl
@[simp] theorem o_unOp (op:UnOp) (t:TypeId) (x:Operand):iq P s G nx (.unOp op t x)=match zf (evX s x)with
  | some a=>(SL op a).map fun r=>(.v r,G,nx)
  | none=>none:=rfl
attribute [simp] xI kY SL
@[simp] theorem o_field (t:TypeId) (x:Operand) (f:Nat):iq P s G nx (.field t x f)=match flI P t f,evX s x with
  | some (off,b,k),.agg cs=>if off+k≤cs.length then some (.mk b ((cs.drop off).take k),G,nx)else none
  | _,_=>none:=rfl
@[simp] theorem o_indexAddr (t:TypeId) (x i:Operand):iq P s G nx (.indexAddr t x i)=(fA P G t (evX s x) (evX s i)).map fun v=>(v,G,nx):=rfl
@[simp] theorem o_extract (x:Operand) (i:Nat):iq P s G nx (.extract x i)=match evX s x with
  | .tup vs=>match vs[i]? with
   | some v=>some (v,G,nx)
   | none=>none
  | _=>none:=rfl
@[simp] theorem bin_int (P:Program) (op:BinOp) (t:TypeId) (k:IntKind) (a b:Int):iZ P op t (.int k a) (.int k b)=match op with
   | .add=>some (.int k (k.wrap (a+b)))
   | .sub=>some (.int k (k.wrap (a-b)))
   | .mul=>some (.int k (k.wrap (a*b)))
   | .quo=>if b=0 then none else some (.int k (k.wrap (a.tdiv b)))
   | .rem=>if b=0 then none else some (.int k (a.tmod b))
   | .and=>some (.int k (bits .and k a b))
   | .or=>some (.int k (bits .or k a b))
   | .xor=>some (.int k (bits .xor k a b))
   | .eql=>some (.bool (decide (a=b)))
   | .neq=>some (.bool (!decide (a=b)))
   | .lss=>some (.bool (decide (a<b)))
   | .leq=>some (.bool (decide (a≤b)))
   | .gtr=>some (.bool (decide (a>b)))
   | .geq=>some (.bool (decide (a≥b)))
   | _=>none:=by
 cases op<;>simp[iZ,Bool.beq_eq_decide_eq]<;>first | rfl | (by_cases h:a=b<;>simp[h])
theorem wrap64 {n:Int} (h1: -9223372036854775808≤n) (h2:n<9223372036854775808):IntKind.i64.wrap n=n:=by
 simp[IntKind.wrap,IntKind.bits,IntKind.signed];omega
theorem dh {j:Nat} (h:j<9223372036854775807):IntKind.i64.wrap ((j:Int)+1)=((j+1:Nat):Int):=by
 rw[wrap64 (by omega) (by omega)];omega
theorem bM {α:Type} [Inhabited α] {l:List α} {i:Nat} (h:i<l.length):nth l i∈l:=by rw[bZ h];exact List.getElem_mem h
theorem oO {α:Type} [Inhabited α] {x y:List α} {i:Nat} (hn:¬nth x i=nth y i):¬x=y:=fun e=>hn (by rw[e])
theorem nN {α:Type} [Inhabited α] {x y:List α} {i:Nat} (hi:i<x.length) (hj:i<y.length) (h:x.take i=y.take i) (hn:nth x i=nth y i):x.take (i+1)=y.take (i+1):=by
 rw[List.take_add_one,List.take_add_one,h,List.getElem?_eq_getElem hi,List.getElem?_eq_getElem hj];rw[bZ hi,bZ hj]at hn;rw[hn]
theorem jV {α:Type} {x y:List α} {i:Nat} (hl:x.length=y.length) (hi:¬i<x.length) (h:x.take i=y.take i):x=y:=by
 rwa [List.take_of_length_le (by omega),List.take_of_length_le (by omega)]at h
structure Br (t:Bool) (A B:Prop):Prop where
 yes:t=true→A
 no:t=false→B
def BrA (a:AV) (A B:Prop):Prop:=(∃t,a=.v (.bool t)∧Br t A B)∨(a=.bl∧A∧B)
@[simp] theorem BrA_bl (A B:Prop):BrA .bl A B=(A∧B):=by simp[BrA]
@[simp] theorem BrA_v (t:Bool) (A B:Prop):BrA (.v (.bool t)) A B=Br t A B:=by
 simp only[BrA,eq_iff_iff];constructor
 ·rintro(⟨t',h,hb⟩ | ⟨h,_⟩)
  ·injection h with h;injection h with h;rw[h];exact hb
  ·cases h
 ·exact fun h=> .inl ⟨t,rfl,h⟩
theorem oD {N:Nat} {K:Exit→KS} {c:Operand} {a b r:Code} (h:∀A B:Prop,(AW P N (.seq a r) K s G nx→A)→(AW P N (.seq b r) K s G nx→B)→BrA (evX s c) A B):AW P N (.seq (.cond c a b) r) K s G nx:=by
 rcases h _ _ id id with⟨t,h1,h2,h3⟩ | ⟨h1,h2,h3⟩
 ·exact Fq t h1 h2 h3
 ·exact .inr ⟨h1,h2,h3⟩
theorem aC {N:Nat} {K:Exit→KS} {c:Operand} {a b r:Code} (h:∀A B:Prop,(AW P N (.seq a r) K s G nx→A)→(AW P N (.seq b r) K s G nx→B)→BrA (evX s c) A B):AW P N (.seq (.cond c a b) r) K s G nx:=oD h
theorem aD {N:Nat} {K:Exit→KS} {c:Operand} {a b:Code} (h:∀A B:Prop,(AW P N (.seq a .skip) K s G nx→A)→(AW P N (.seq b .skip) K s G nx→B)→BrA (evX s c) A B):AW P N (.cond c a b) K s G nx:=dL (oD h)
theorem aX {N:Nat} {K:Exit→KS} {c:Operand} {a b r:Code} (hc:evX s c=.v (.bool true)) (h:AW P N (.seq a r) K s G nx):AW P N (.seq (.cond c a b) r) K s G nx:=Fq true hc (fun _=>h) (fun h=>by cases h)
theorem aY {N:Nat} {K:Exit→KS} {c:Operand} {a b r:Code} (hc:evX s c=.v (.bool false)) (h:AW P N (.seq b r) K s G nx):AW P N (.seq (.cond c a b) r) K s G nx:=Fq false hc (fun h=>by cases h) (fun _=>h)
theorem aXk {N:Nat} {K:Exit→KS} {c:Operand} {b r:Code} (hc:evX s c=.v (.bool true)) (h:AW P N r K s G nx):AW P N (.seq (.cond c .skip b) r) K s G nx:=aX hc (pR h)
theorem aYk {N:Nat} {K:Exit→KS} {c:Operand} {a r:Code} (hc:evX s c=.v (.bool false)) (h:AW P N r K s G nx):AW P N (.seq (.cond c a .skip) r) K s G nx:=aY hc (pR h)
theorem aU {N:Nat} {K:Exit→KS} {c:Operand} {a b:Code} (hc:evX s c=.v (.bool true)) (h:AW P N (.seq a .skip) K s G nx):AW P N (.cond c a b) K s G nx:=dL (aX hc h)
theorem aV {N:Nat} {K:Exit→KS} {c:Operand} {a b:Code} (hc:evX s c=.v (.bool false)) (h:AW P N (.seq b .skip) K s G nx):AW P N (.cond c a b) K s G nx:=dL (aY hc h)
theorem aUk {N:Nat} {K:Exit→KS} {c:Operand} {b:Code} (hc:evX s c=.v (.bool true)) (h:AW P N .skip K s G nx):AW P N (.cond c .skip b) K s G nx:=dL (aXk hc h)
theorem aVk {N:Nat} {K:Exit→KS} {c:Operand} {a:Code} (hc:evX s c=.v (.bool false)) (h:AW P N .skip K s G nx):AW P N (.cond c a .skip) K s G nx:=dL (aYk hc h)
end
def UJ (cs:List AV) (w i f k:Nat):Option (List AV):=gU cs (i*w+f) k
def Aa (cs:List AV) (w i f:Nat) (ts:List AV):List AV:=splice cs (i*w+f) ts
def UH (cs:List AV) (w i f k:Nat):Bool:=decide (i*w+f+k≤cs.length)
section
variable {P:Program} [Gl P] {s:Sl} {G:Hp} {nx:Nat} {α:Type} {c:α→List AV} {w:Nat} {l:List α}
@[simp] theorem getO_flat [Inhabited α] [Wid c w] {i f k:Nat} (h:i<l.length) (hk:f+k≤w):UJ (flat c l) w i f k=gU (c (nth l i)) f k:=vI h hk
@[simp] theorem fitO_flat [Wid c w] {i f k:Nat} (h:i<l.length) (hk:f+k≤w):UH (flat c l) w i f k=true:=by
 have hlt:i*w+w≤l.length*w:=(by rw[←Nat.succ_mul];exact Nat.mul_le_mul_right _ h);simp only[UH,eY (c:=c) (w:=w),decide_eq_true_eq];omega
theorem Ce [Wid c w] {i:Nat} (h:i<l.length) (a:α):Aa (flat c l) w i 0 (c a)=flat c (l.set i a):=by
 unfold Aa splice flat;have hw:(c a).length=w:=Wid.len a;rw[hw,Nat.add_zero];induction l generalizing i with
 | nil=>simp at h
 | cons b l ih=>
  have hb:(c b).length=w:=Wid.len b;cases i with
  | zero=>simp[hb]
  | succ i=>
   have ih:=ih (i:=i) (by simpa using h);rw[List.flatMap_cons,List.set_cons_succ,List.flatMap_cons,←ih];have e1:(i+1)*w=w+i*w:=(by rw[Nat.add_mul];omega);rw[e1,List.take_append,List.drop_append,hb];rw[List.take_of_length_le (by omega),List.drop_eq_nil_of_le (by omega)];have e2:w+i*w-w=i*w:=(by omega);have e3:w+i*w+w-w=i*w+w:=(by omega);rw[e2,e3];simp
theorem wS [Inhabited α] [Wid c w] {i:Nat} (h:i<l.length):Aa (flat c l) w i 0 (c (nth l i))=flat c l:=by
 rw[Ce h];congr 1;rw[bZ h];simp
@[simp] theorem evIndexAddr_row (t:TypeId) (k:IntKind) {id m:Nat} {n:Int} (h0:0≤n) (h1:n<m):fA P G t (.row id m) (.v (.int k n))=match elI P t,G id with
  | some (_,w,_,_),some o=>if o.alive=true then some (eaO id m w n.toNat 0)else none
  | _,_=>none:=by
 unfold fA;cases elI P t with
 | none=>rfl
 | some q=>
  obtain⟨e,w,b,z⟩:=q;cases hG:G id with
  | none=>simp[hG]
  | some o=>cases h:o.alive<;>simp[hG,h,h0,h1,eaO]
@[simp] theorem evLoad_eaO (t:TypeId) (id n w i f:Nat):iG P G t (eaO id n w i f)=match tyI P t,G id with
  | some (b,k),some (.row _ cs)=>(UJ cs w i f k).map (AV.mk b)
  | some (b,k),some (.frz _ cs)=>(UJ cs w i f k).map (AV.mk b)
  | some (b,k),some (.var _ cs)=>(UJ cs w i f k).map (AV.mk b)
  | _,_=>none:=JM ..
@[simp] theorem evStore_eaO (t:TypeId) (id n w i f:Nat) (v:AV):jA P G t (eaO id n w i f) v=match tyI P t with
  | none=>none
  | some (_,k)=>if v.cells.length=k∧v.cells.all AV.one=true then
    match bY P G v.cells with
    | some (ts,G')=>match G' id with
     | some (.row e cs)=>if UH cs w i f k=true then some (G'.upd id (.row e (Aa cs w i f ts)))else none
     | _=>none
    | none=>none
   else none:=by
 unfold jA eaO UH Aa;cases tyI P t with
 | none=>rfl
 | some q=>
  simp only[decide_eq_true_eq];rfl
@[simp] theorem Tq [Wid c w] {id n i f:Nat} {e:TypeId} (hG:G id=some (.row e (flat c l))) (h:i<l.length) (hf:f<w):adr G (eaO id n w i f)=true:=by
 have hlt:i*w+w≤l.length*w:=(by rw[←Nat.succ_mul];exact Nat.mul_le_mul_right _ h);unfold adr eaO;simp only[rC,hG];have hl:((flat c l).drop (i*w+f)).length≠0:=(by rw[List.length_drop,eY (w:=w)];omega);cases hd:(flat c l).drop (i*w+f)with
 | nil=>rw[hd]at hl;simp at hl
 | cons a r=>rfl
@[simp] theorem srcOf_rowT:qx P G (rowT c l)=some (l.length,flat c l):=rfl
@[simp] theorem srcOf_nil:qx P G (.v (.slice none 0 0))=some (0,[]):=rfl
theorem dA (id n:Nat):qx P G (.row id n)=match bJ P G (.row id n)with
  | some (.sl m ms)=>some (m,ms)
  | _=>none:=rfl
@[simp] theorem flat_nil:flat c ([]:List α)=[]:=rfl
theorem dV (a:α):flat c l++c a=flat c (l++[a]):=by simp[flat]
theorem AB (l':List α):flat c l++flat c l'=flat c (l++l'):=by simp[flat]
@[simp] theorem flat_take [Wid c w] {n:Nat} (hn:n=l.length):(flat c l).take (n*w)=flat c l:=by
 subst hn;rw[List.take_of_length_le (by rw[eY (w:=w)];omega)]
@[simp] theorem flat_len' [Wid c w]:(flat c l).length=l.length*w:=eY
theorem OV (a:α):c a=flat c [a]:=by simp[flat]
@[simp] theorem nilCmp_rowT [Wid c w] (op:BinOp) (t:TypeId):qw P op t (rowT c l) (.v (.slice none 0 0))=match elI P t,op with
  | some _,.eql=>some (if l=[]then .bl else .v (.bool false))
  | some _,.neq=>some (if l=[]then .bl else .v (.bool true))
  | _,_=>none:=by
 have:((flat c l).isEmpty=true)↔l=[]:=by
  rw[List.isEmpty_iff];constructor
  ·intro h;have h1:=eY (c:=c) (w:=w) (l:=l);rw[h]at h1;have h2:=Wid.pos (c:=c);cases l with
   | nil=>rfl
   | cons a r=>simp only[List.length_nil,List.length_cons,Nat.add_mul]at h1;omega
  ·rintro rfl;rfl
 unfold qw rowT;simp only[this];cases elI P t<;>cases op<;>rfl
theorem sO [Wid c w] {id:Nat} {e:TypeId} (hG:G id=some (.row e (flat c l))∨G id=some (.frz e (flat c l))) (he:P.cellsOf e=w):bJ P G (.row id l.length)=some (rowT c l):=by
 rw[bQ];rcases hG with hG | hG<;>rw[hG]<;>simp only[he,eY (c:=c) (w:=w),Nat.le_refl,if_true]<;>rw[List.take_of_length_le (by rw[eY (w:=w)];omega)]<;>rfl
@[simp] theorem flat_take1 [Wid c 1]:(flat c l).take l.length=flat c l:=List.take_of_length_le (by rw[eY (w:=1)];omega)
@[simp] theorem sl_flat:AV.sl l.length (flat c l)=rowT c l:=rfl
@[simp] theorem treeOf_upd [Wid c w] {id n:Nat} {e:TypeId} (he:P.cellsOf e=w) (hn:n=l.length):bJ P (G.upd id (.row e (flat c l))) (.row id n)=some (rowT c l):=by
 subst hn;exact sO (.inl (Hp.bW _ _ _)) he
@[simp] theorem dW {j id n:Nat} (h:¬j=id):bT G (.row id n) j=G j:=by
 rw[mV];split
 ·exact Hp.upd_ne _ _ h
 ·rfl
end
attribute [simp] og mD lI
def Wk (P:Program) (a b:AV):Prop:=∀(F:Nat→Prop) (w:World) (u:Value),VR P (En.zero F) w a u→VR P (En.zero F) w b u
inductive WkL (P:Program):List AV→List AV→Prop
 | nil:WkL P [] []
 | cons {a b:AV} {as bs:List AV} (h:Wk P a b) (hs:WkL P as bs):WkL P (a::as) (b::bs)
section
variable {P:Program} [Gl P]
theorem Wk.refl (a:AV):Wk P a a:=fun _ _ _ h=>h
theorem WkL.refl:∀(l:List AV),WkL P l l
 | []=> .nil
 | a::l=> .cons (.refl a) (WkL.refl l)
theorem Wk.nil:Wk P (.v (.slice none 0 0)) (.sl 0 []):=fun F w u h=>by
 obtain⟨rfl,_⟩:=h.iE;exact .tree (.nil none (Nat.le_refl 0))
theorem Wk.nilRow {α:Type} {c:α→List AV} :Wk P (.v (.slice none 0 0)) (rowT c []):=Wk.nil
theorem WkL.all2 {F:Nat→Prop} {w:World} {as bs:List AV} (h:WkL P as bs):∀ {us:List Value},All2 (VR P (En.zero F) w) as us→All2 (VR P (En.zero F) w) bs us:=by
 induction h with
 | nil=>exact fun h=>h
 | cons h hs ih=>
  intro us hx;obtain⟨u,us,rfl,h1,h2⟩:=hx.jP;exact .cons (h _ _ _ h1) (ih h2)
theorem Wk.agg {cs ds:List AV} (h:WkL P cs ds):Wk P (.agg cs) (.agg ds):=fun F w u hx=>by
 obtain⟨us,rfl,hl,hv,hone⟩:=hx.jO;have:=h.all2 (⟨hl,hv⟩:All2 _ cs us);exact .agg this.1 this.2 hone
theorem CallsOK.weak {f:FuncId} {as bs:List AV} {r:AV} {J:Js} (h:CallsOK P f bs r J) (hw:WkL P as bs):CallsOK P f as r J:=
 ⟨h.1,h.2.1,fun w us F hF hΓ hx=>h.2.2 w us F hF hΓ (hw.all2 hx)⟩
def WkT (a b:AV):Prop:=∀(M:Nat→Prop) (w:World) (u:Value),TR M w a u→TR M w b u
inductive WkTL:List AV→List AV→Prop
 | nil:WkTL [] []
 | cons {a b:AV} {as bs:List AV} (h:WkT a b) (hs:WkTL as bs):WkTL (a::as) (b::bs)
theorem WkT.refl (a:AV):WkT a a:=fun _ _ _ h=>h
theorem WkTL.refl:∀(l:List AV),WkTL l l
 | []=> .nil
 | a::l=> .cons (.refl a) (WkTL.refl l)
theorem WkT.nil:WkT (.v (.slice none 0 0)) (.sl 0 []):=fun M w u h=>by
 cases h with
 | v h=>exact .nil none (Nat.le_refl 0)
theorem WkTL.at {as bs:List AV} (h:WkTL as bs):as.length=bs.length∧∀(i:Nat) a b,as[i]? =some a→bs[i]? =some b→WkT a b:=by
 induction h with
 | nil=>exact⟨rfl,fun i a b h=>by simp at h⟩
 | cons h hs ih=>
  refine⟨by simp[ih.1],fun i a b ha hb=> ?_⟩;cases i with
  | zero=>simp at ha hb;subst ha;subst hb;exact h
  | succ i=>simp at ha hb;exact ih.2 i a b ha hb
theorem WkT.sl {n:Nat} {cs ds:List AV} (h:WkTL cs ds):WkT (.sl n cs) (.sl n ds):=fun M w u hx=>by
 obtain⟨hl,hat⟩:=h.at;cases hx with
 | nil A hn=>
  cases ds with
  | nil=>exact .nil A hn
  | cons _ _=>simp at hl
 | sl hn h0 hb hlen hc hr=>
  refine .sl hn (by omega) hb (by omega) hc fun i b u hbi hu=> ?_;have hi:i<cs.length:=(by rw[hl];exact(List.getElem?_eq_some_iff.1 hbi).1);exact hat i _ b (List.getElem?_eq_getElem hi) hbi _ _ _ (hr i _ u (List.getElem?_eq_getElem hi) hu)
theorem JG {e:TypeId} {cs:List AV} {i:Nat} {o:AObj} :ofJ [(e,cs)] i=some o↔i=0∧o=.row e cs:=by
 cases i with
 | zero=>simp[ofJ,eq_comm]
 | succ i=>simp[ofJ]
theorem CallsOK.VI {f:FuncId} {as:List AV} {r:AV} {e:TypeId} {cs ds:List AV} (h:CallsOK P f as r [(e,cs)]) (hw:WkTL cs ds):CallsOK P f as r [(e,ds)]:=by
 obtain⟨hl,hat⟩:=hw.at;refine⟨h.1,h.2.1,fun w us F hF hΓ hx=>(h.2.2 w us F hF hΓ hx).mono fun en w' hh=> ?_⟩;obtain⟨u,E',rfl,hv,hR,hEF,hb,hge⟩:=hh;refine⟨u,E',rfl,hv,⟨hR.inj,fun i b hi=> ?_,hR.lt,fun i o hi ha=> ?_,fun i=> ?_,fun b=> ?_,hR.nF,hR.Flt,hR.good⟩,hEF,hb,hge⟩
 ·obtain⟨o,h1,h2⟩:=hR.dom i b hi;obtain⟨rfl,rfl⟩:=JG.1 h1;exact⟨_,JG.2 ⟨rfl,rfl⟩,rfl⟩
 ·obtain⟨rfl,rfl⟩:=JG.1 hi;rcases hR.obj 0 _ (JG.2 ⟨rfl,rfl⟩) rfl with⟨b,hb,us',q1,q2,q3⟩ | ⟨hN,e',he⟩
  ·refine .inl ⟨b,hb,us',q1,by omega,fun i c x hc hx=> ?_⟩;have hi:i<cs.length:=(by rw[hl];exact(List.getElem?_eq_some_iff.1 hc).1);exact hat i _ c (List.getElem?_eq_getElem hi) hc _ _ _ (q3 i _ x (List.getElem?_eq_getElem hi) hx)
  ·injection he with he1 he2;subst he2;cases ds with
   | nil=>exact .inr ⟨hN,e,rfl⟩
   | cons _ _=>simp at hl
 ·rw[hR.K i];exact⟨fun⟨o,h⟩=>by obtain⟨rfl,rfl⟩:=JG.1 h;exact⟨_,JG.2 ⟨rfl,rfl⟩⟩,fun⟨o,h⟩=>by obtain⟨rfl,rfl⟩:=JG.1 h;exact⟨_,JG.2 ⟨rfl,rfl⟩⟩⟩
 ·rw[hR.W b];exact⟨fun⟨i,o,h1,h2,h3⟩=>by obtain⟨rfl,rfl⟩:=JG.1 h2;exact⟨0,_,h1,JG.2 ⟨rfl,rfl⟩,rfl⟩,fun⟨i,o,h1,h2,h3⟩=>by obtain⟨rfl,rfl⟩:=JG.1 h2;exact⟨0,_,h1,JG.2 ⟨rfl,rfl⟩,rfl⟩⟩
end
section
variable {P:Program} [Gl P] {s:Sl} {G:Hp} {nx:Nat} {α:Type} {c:α→List AV} {w:Nat} {l:List α}
theorem kP {G G':Hp} {id n:Nat} (h:G' id=G id):bJ P G' (.row id n)=bJ P G (.row id n):=by
 rw[bQ,bQ,h]
@[simp] theorem treeOf_updne {j id n:Nat} {o:AObj} (h:¬id=j):bJ P (G.upd j o) (.row id n)=bJ P G (.row id n):=kP (Hp.upd_ne _ _ h)
@[simp] theorem treeOf_frz {id n n':Nat} :bJ P (bT G (.row id n')) (.row id n)=bJ P G (.row id n):=by
 rw[bQ,bQ,mV];cases hG:G id with
 | none=>simp[hG]
 | some o=>
  cases o with
  | row e cs=>cases cs<;>simp[hG]
  | _=>simp[hG]
@[simp] theorem CQ {j id n n':Nat} (h:¬id=j):bJ P (bT G (.row j n')) (.row id n)=bJ P G (.row id n):=kP (dW h)
@[simp] theorem getC_zz (cs:List AV):gU cs 0 0=some []:=by simp[gU]
@[simp] theorem getC_cons0 (a:AV) (cs:List AV) (k:Nat):gU (a::cs) 0 (k+1)=(gU cs 0 k).map (a:: ·):=by
 simp only[gU,List.length_cons,Nat.zero_add,List.drop_zero,List.take_succ_cons];by_cases h:k≤cs.length
 ·rw[if_pos (by omega),if_pos h];rfl
 ·rw[if_neg (by omega),if_neg h];rfl
@[simp] theorem getC_cons (a:AV) (cs:List AV) (n k:Nat):gU (a::cs) (n+1) k=gU cs n k:=by
 simp only[gU,List.length_cons,List.drop_succ_cons];by_cases h:n+k≤cs.length
 ·rw[if_pos (by omega),if_pos h]
 ·rw[if_neg (by omega),if_neg h]
def ltO (cs:List AV) (w i f:Nat):Bool:=decide (i*w+f<cs.length)
@[simp] theorem ltO_flat [Wid c w] {i f:Nat} (h:i<l.length) (hf:f<w):ltO (flat c l) w i f=true:=by
 have hlt:i*w+w≤l.length*w:=(by rw[←Nat.succ_mul];exact Nat.mul_le_mul_right _ h);simp only[ltO,eY (c:=c) (w:=w),decide_eq_true_eq];omega
theorem FH (cs:List AV) (k:Nat):(match cs.drop k with | _::_=>true | _=>false)=decide (k<cs.length):=by
 by_cases h:k<cs.length
 ·have:(cs.drop k).length≠0:=(by rw[List.length_drop];omega);cases hd:cs.drop k with
  | nil=>rw[hd]at this;simp at this
  | cons a r=>simp[h]
 ·rw[List.drop_eq_nil_of_le (by omega)];simp[h]
@[simp] theorem adr_row (id n i f:Nat):adr G (eaO id n w i f)=match G id with
  | some (.row _ cs)=>ltO cs w i f
  | some (.frz _ cs)=>ltO cs w i f
  | some (.var _ cs)=>ltO cs w i f
  | _=>false:=by
 unfold adr eaO ltO;simp only[rC];cases G id with
 | none=>rfl
 | some o=>
  (cases o<;>try rfl);all_goals
   rename_i cs;simp only;rw[←FH];cases cs.drop (i*w+f)<;>rfl
attribute [-simp] Tq
theorem dN [Wid c w] {id n:Nat} {e:TypeId} (hG:G id=some (.row e (flat c l))) (he:P.cellsOf e=w) (hn:n=l.length):bJ P G (.row id n)=some (rowT c l):=by
 subst hn;exact sO (.inl hG) he
theorem gW [Wid c w] {id n:Nat} {e:TypeId} (hG:G id=some (.frz e (flat c l))) (he:P.cellsOf e=w) (hn:n=l.length):bJ P G (.row id n)=some (rowT c l):=by
 subst hn;exact sO (.inr hG) he
end
def M0:Nat→Prop:=fun _=>False
structure Opens (P:Program) {α:Type} (Q:α→Prop) (c:α→List AV) (t:TypeId):Prop where
 op:∀(H:Type) (enc:TypeId×Value→H) (w:World) (base:Nat) (spare:Nat→Bool) (held:Bool) (fuel:Nat) (cs:List Value) (x:DataW H×List MemPlace),
  DataW.trod enc P w base spare held fuel t cs=some x→∃a:α,Q a∧All2 (TR M0 w) (c a) cs
structure OpensF (P:Program) {α:Type} (Q:α→Prop) (n off:Nat) (c:α→List AV) (fs:List (TypeId×Nat)):Prop where
 op:∀(H:Type) (enc:TypeId×Value→H) (w:World) (base:Nat) (spare:Nat→Bool) (held:Bool) (fuel:Nat) (cs:List Value),cs.length=n→
  (∀p∈fs,∃x,DataW.trod enc P w base spare held fuel p.1 ((cs.drop p.2).take (P.cellsOf p.1))=some x)→∃a:α,Q a∧All2 (TR M0 w) (c a) (cs.drop off)
def Ib (P:Program) (t:TypeId):Option (List (TypeId×Nat)):=match P.underlying t with
 | some (.struct fs)=>some (fs.toList.map fun f=>(f.type,f.offset))
 | _=>none
section
variable {P:Program} [Gl P] {α β:Type} {Q:α→Prop} {Q':β→Prop}
theorem All2.one {α β:Type} {R:α→β→Prop} {x:α} {y:β} (h:R x y):All2 R [x] [y]:=.cons h .nil
theorem Opens.map {c:α→List AV} {c':β→List AV} {t:TypeId} (h:Opens P Q c t) (f:α→β) (hQ:∀a,Q a→Q' (f a)) (hf:∀a,c' (f a)=c a):Opens P Q' c' t:=by
 constructor;intro H enc w base spare held fuel cs x hx;obtain⟨a,hq,ha⟩:=h.op _ enc w base spare held fuel cs x hx;exact⟨f a,hQ a hq,by rw[hf];exact ha⟩
theorem wQ {t:TypeId} {k:IntKind} (ht:P.underlying t=some (.int k)):Opens P (fun n=>(Lit.int k n).wf=true) (fun n:Int=>[.v (.int k n)]) t:=by
 constructor;intro H enc w base spare held fuel cs x hx;obtain⟨b,rfl,_,hw⟩:=DataW.trod_int ht hx;exact⟨b,hw,.one (.v rfl)⟩
theorem Dv {t:TypeId} (ht:P.underlying t=some .string):Opens P (fun s=>s.size≤maxLen) (fun s:ByteArray=>[.v (.string s)]) t:=by
 constructor;intro H enc w base spare held fuel cs x hx;obtain⟨b,rfl,_,hw⟩:=DataW.trod_string ht hx;exact⟨b,hw,.one (.v rfl)⟩
theorem jv {c:α→List AV} {k:Nat} [Wid c k] {t e:TypeId} (h:Opens P Q c e) (ht:P.underlying t=some (.slice e)) (hk:P.cellsOf e=k):Opens P (fun l=>l.length≤maxLen∧∀a∈l,Q a) (fun l:List α=>[rowT c l]) t:=by
 constructor;intro H enc w base spare held fuel cs x hx;rcases DataW.trod_slice ht hx with⟨rfl,_⟩ | ⟨a,len,cap,elems,rest,n,rfl,rfl,_,hb,hl,hc,hel,hat,_⟩
 ·exact⟨[],⟨by simp,by simp⟩,.one (.nil none (Nat.le_refl 0))⟩
 have key:∀m,m≤len→∃(l:List α) (us:List Value),l.length=m∧(∀a∈l,Q a)∧(∀j u,us[j]? =some u→w.cell? (a.add j)=some u)∧All2 (TR M0 w) (flat c l) us:=by
  intro m;induction m with
  | zero=>exact fun _=>⟨[],[],rfl,by simp,by simp,.nil⟩
  | succ m ih=>
   intro hm;obtain⟨l,us,h1,h2,h3,h4⟩:=ih (by omega);have:=hat m (by omega);rw[List.getElem?_eq_getElem (by omega)]at this;obtain⟨vs,hv1,hv2⟩:=Option.bind_eq_some_iff.1 this;obtain⟨b,hq,hb2⟩:=h.op _ enc w base spare held n vs _ hv2;obtain⟨_,hvl,hvc⟩:=World.cells?_some hv1;have hul:us.length=m*k:=(by have:=h4.1;rw[this,eY (w:=k),h1]);refine⟨l++[b],us++vs,by simp[h1],fun x hx=> ?_,fun j u hj=> ?_,?_⟩
   ·rcases List.mem_append.1 hx with hx | hx
    ·exact h2 x hx
    ·simp at hx;subst hx;exact hq
   ·rw[List.getElem?_append]at hj;split at hj
    ·exact h3 j u hj
    ·rename_i hlt;have hj2:j-us.length<vs.length:=(List.getElem?_eq_some_iff.1 hj).1;have:=hvc (j-us.length) (by omega);rw[add_add,hk,←hul,show us.length+(j-us.length)=j by omega]at this;rw[this];exact hj
   ·rw[←AB];have e:flat c [b]=c b:=(OV b).symm;rw[e];exact h4.app hb2
 obtain⟨l,us,h1,h2,h3,h4⟩:=key len (Nat.le_refl _);refine⟨l,⟨by omega,h2⟩,.one ?_⟩;subst h1;show TR M0 w (.sl l.length (flat c l)) _;by_cases h0:l=[]
 ·subst h0;exact .nil _ (Nat.zero_le _)
 ·have hpos:0<(flat c l).length:=by
   rw[eY (w:=k)];exact Nat.mul_pos (List.length_pos_iff.2 h0) (Wid.pos (c:=c))
  exact .sl hl hpos (fun h=>h) h4.1 h3 h4.2
theorem jD {n:Nat} :OpensF P (fun _=>True) n n (fun _:Unit=>[]) []:=by
 constructor;intro H enc w base spare held fuel cs hn _;refine⟨(),trivial,?_⟩;rw[List.drop_eq_nil_of_le (by omega)];exact .nil
theorem dI (k:Nat) {c:α→List AV} {c':β→List AV} {t:TypeId} {n off:Nat} {fs:List (TypeId×Nat)} (h:Opens P Q c t) (hs:OpensF P Q' n (off+k) c' fs) (hk:P.cellsOf t=k):
  OpensF P (fun x:α×β=>Q x.1∧Q' x.2) n off (fun x:α×β=>c x.1++c' x.2) ((t,off)::fs):=by
 constructor;intro H enc w base spare held fuel cs hn hall;obtain⟨x,hx⟩:=hall (t,off) (by simp);obtain⟨a,hq,ha⟩:=h.op _ enc w base spare held fuel _ x hx;obtain⟨b,hq',hb⟩:=hs.op _ enc w base spare held fuel cs hn fun p hp=>hall p (by simp[hp]);refine⟨(a,b),⟨hq,hq'⟩,?_⟩;have e:cs.drop off=(cs.drop off).take k++cs.drop (off+k):=by
  rw[←List.drop_drop];exact(List.take_append_drop k _).symm
 rw[e];simp only at ha;rw[hk]at ha;exact ha.app hb
theorem gX {c:α→List AV} {t:TypeId} {n:Nat} {fs:List (TypeId×Nat)} (h:OpensF P Q n 0 c fs) (ht:Ib P t=some fs) (hn:P.cellsOf t=n):Opens P Q c t:=by
 constructor;intro H enc w base spare held fuel cs x hx;unfold Ib at ht;split at ht
 ·rename_i fa hfa;injection ht with ht;obtain⟨xs,m,rfl,_,hl,hxl,hat⟩:=DataW.trod_struct hfa hx;obtain⟨a,hq,ha⟩:=h.op _ enc w base spare held m cs (by rw[hl,hn]) fun p hp=>by
   rw[←ht]at hp;obtain⟨f,hf,rfl⟩:=List.mem_map.1 hp;obtain⟨i,hi,he⟩:=List.mem_iff_getElem.1 hf;have hi':i<fa.size:=(by simpa using hi);have:=hat i f (by rw[←he];simp[hi']);rw[List.getElem?_eq_getElem (by omega)]at this;exact⟨_,this⟩
  exact⟨a,hq,by simpa using ha⟩
 ·cases ht
theorem TB {w:World} {a:AV} {u:Value} (h:TR M0 w a u):VR P (En.zero M0) w a u:=VR.zero h
theorem open_arg {H:Type} {enc:TypeId×Value→H} {w:World} {base b0:Nat} {spare:Nat→Bool} {held:Bool} {r:Reach} {c:α→List AV} {t:TypeId} {v:Value} {d:DataW H} {ps:List MemPlace} (h:Opens P Q c t)
  (hd:DataW.Trod enc P w base spare held t v d ps) (ht:(Ib P t).isSome=true) (hv:Value.okWide P w r b0 t v):∃a,Q a∧VR P (En.zero M0) w (.agg (c a)) v:=by
 unfold Ib at ht;split at ht
 ·rename_i fa hfa;obtain⟨cs,rfl,_⟩:=WideShapes.okWide_struct hfa hv;obtain⟨fuel,hf⟩:=hd;obtain⟨a,hq,ha⟩:=h.op _ enc w base spare held fuel _ _ hf;refine⟨a,hq,?_⟩;have:=Ih (P:=P) ha;simpa [Value.cells]using this
 ·cases ht
theorem open_one {H:Type} {enc:TypeId×Value→H} {w:World} {base:Nat} {spare:Nat→Bool} {held:Bool} {c:α→AV} {t:TypeId} {v:Value} {d:DataW H} {ps:List MemPlace} (h:Opens P Q (fun a=>[c a]) t)
  (hd:DataW.Trod enc P w base spare held t v d ps) (hv:v.cells= #[v]):∃a,Q a∧VR P (En.zero M0) w (c a) v:=by
 obtain⟨fuel,hf⟩:=hd;obtain⟨a,hq,ha⟩:=h.op _ enc w base spare held fuel _ _ hf;rw[hv]at ha;exact⟨a,hq,TB (ha.2 0 _ _ rfl rfl)⟩
theorem row_calls {f:FuncId} {as:List AV} {us:List Value} {w:World} {b:Bool} (h:CallsOK P f as (.v (.bool b)) []) (hΓ:∀w',ExtC (fun _=>False) w w'→Gl.ok P w') (ha:All2 (VR P (En.zero M0) w) as us):
  Calls P f us.toArray w fun e w'=>e=.returned (.bool b)∧Below w.heap.size w w':=by
 refine(h.2.2 w us M0 (fun _ h=>h.elim) hΓ ha).mono ?_;rintro e w' ⟨u,E',rfl,hv,_,_,hb,_⟩;obtain⟨rfl,_⟩:=hv.iE;exact⟨rfl,hb⟩
end
end Go.Proofs.YtmmbgjmigmchbaaGreatDoorAbs
