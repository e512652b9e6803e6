/- Versions: how they stand to one another, in plain words. -/
import Derived.Test.YtmmbgjmigmchbaaGreatDoorNg5
import Derived.Shelf.Strings.SlTrimAscii
import Derived.WalkSmall
import Derived.Lib.AtoiErrMem
import Derived.Lib.AppendIntMem
import Derived.Test.YtmmbgjmigmchbaaGreatDoorNg2
import Derived.Lib.ItoaLen
import Derived.Test.YtmmbgjmigmchbaaGreatDoorNg3
import Derived.Lib.Split
namespace Go.Proofs.YtmmbgjmigmchbaaGreatDoorAbs
set_option linter.unusedSimpArgs false
set_option linter.unusedVariables false
open Go Go.RowKit Go.Proofs
set_option maxRecDepth 100000
theorem ED (s:Bs) (c:Int):CallsOK Tryz.prog 179 [sV s,.v (.int .u8 c)] (iV (Lib.indexByte (bsL s) c.toNat.toUInt8)) []:=
 Vz (xs:=[.string s,.int .u8 c]) rfl Tryz.call179 fun w _=>Tryz.strings_IndexByte s c w
theorem EG (s p:Bs):CallsOK Tryz.prog 140 [sV s,sV p] (.tup [sV (ofL (Lib.trimPrefix (bsL s) (bsL p))),bV (Lib.hasPrefix (bsL s) (bsL p))]) []:=
 Wn (xs:=[.string s,.string p]) (us:=[.string (ofL (Lib.trimPrefix (bsL s) (bsL p))),.bool (Lib.hasPrefix (bsL s) (bsL p))]) (by simp) Tryz.call140 fun w _=>Tryz.strings_CutPrefix s p w
theorem SE (s:Bs) (c:UInt8):CallsOK Tryz.prog 217 [sV s,sV ⟨#[c]⟩] (iV (Lib.indexByte (bsL s) c)) []:=
 Vz (xs:=[.string s,.string ⟨#[c]⟩]) rfl Tryz.call217 fun w _=>Tryz.strings_Index_one s c w
theorem VB (s p:Bs) (hs:s.size<4294967281):CallsOK Tryz.prog 142 [sV s,sV p] (.tup [sV (ofL (Lib.cut (bsL s) (bsL p)).1),sV (ofL (Lib.cut (bsL s) (bsL p)).2.1),bV (Lib.cut (bsL s) (bsL p)).2.2]) []:=
 Jp (xs:=[.string s,.string p]) rfl Tryz.call142 fun w hw=>by
  obtain⟨m,hm⟩:=hw.2.2.2.1;refine(Tryz.strings_Cut s p m w hs hm).mono ?_;rintro e w' ⟨rfl,n,rfl⟩;exact⟨_,rfl,fun E w'=>Qw (us:=[.string (ofL (Lib.cut (bsL s) (bsL p)).1),.string (ofL (Lib.cut (bsL s) (bsL p)).2.1),.bool (Lib.cut (bsL s) (bsL p)).2.2]) (by simp),below_drewN (Below.refl _ _) n⟩
def QV:List UInt8:=[48,49,50,51,52,53,54,55,56,57]
theorem Uw (s:Bs) (hs:s.size≤9223372036854775807):CallsOK Tryz.prog 218 [sV s,sV ⟨#[48,49,50,51,52,53,54,55,56,57]⟩] (sV (ofL (Lib.trimS (bsL s) QV))) []:=
 Jp (xs:=[.string s,.string ⟨#[48,49,50,51,52,53,54,55,56,57]⟩]) rfl Tryz.call218 fun w _=>by
  refine(Any.strings_Trim_laid Tryz.lays160 (by kernel_rfl) s ⟨#[48,49,50,51,52,53,54,55,56,57]⟩ w hs (by decide) (ascii_of_all (by decide))).mono ?_;rintro e w' ⟨rfl,hb⟩;exact⟨_,rfl,fun _ _=> .tree (.v rfl),hb⟩
theorem La (n:Int) (h0: -9223372036854775808≤n) (h1:n≤9223372036854775807):CallsOK Tryz.prog 139 [iV n] (sV (ofL (Lib.itoa n))) []:=
 Jp (xs:=[.int .i64 n]) rfl Tryz.call139 fun w hw=>by
  refine(Tryz.strconv_Itoa n h0 h1 w hw.1).mono ?_;rintro e w' ⟨rfl,k,os,rfl⟩;exact⟨_,rfl,fun _ _=> .tree (.v rfl),Lib.below_grow _ _ (Nat.le_refl _) _ _⟩
def qy (l:List UInt8):Int:=match Lib.atoiAll l with
 | .ok v=>v
 | .range=>Lib.atoiSat l
 | _=>0
theorem Gh {E:En} {w:World} {n:Int} {u:Value} :VR Tryz.prog E w (.tup [iV n,.any]) (.tuple #[.int .i64 n,u]):=
 .tup (us:=[.int .i64 n,u]) rfl fun i a x ha hx=>by
  match i,ha,hx with
  | 0,ha,hx=>simp at ha hx;subst ha;subst hx;exact .tree (.v rfl)
  | 1,ha,hx=>simp at ha hx;subst ha;exact .any _
  | i+2,ha,hx=>simp at ha
theorem TF (s:Bs) (hs:s.size≤281474976710656):CallsOK Tryz.prog 219 [sV s] (.tup [iV (qy (bsL s)),.any]) []:=
 Jp (xs:=[.string s]) rfl Tryz.call219 fun w hw=>by
  obtain⟨_,⟨tp,p,h1⟩,⟨tp2,p2,h2⟩,_⟩:=hw;unfold qy;cases h:Lib.atoiAll (bsL s)with
  | ok v=>
   refine(Tryz.strconv_Atoi_ok s (by omega) v h w).mono ?_;rintro e w' ⟨rfl,rfl | ⟨t,rfl⟩⟩
   ·exact⟨_,rfl,fun _ _=>Gh,Below.refl _ _⟩
   ·exact⟨_,rfl,fun _ _=>Gh,Lib.bytesWorld_below _ _ _⟩
  | range=>
   refine(Tryz.strconv_Atoi_range_var s hs h tp2 p2 w h2).mono ?_;rintro e w' ⟨N,rfl,_,_,hb⟩;exact⟨_,rfl,fun _ _=>Gh,hb⟩
  | _=>
   refine(Tryz.strconv_Atoi_syntax_var s hs h tp p w h1).mono ?_;rintro e w' ⟨N,rfl,_,_,hb⟩;exact⟨_,rfl,fun _ _=>Gh,hb⟩
set_option maxRecDepth 100000
set_option maxHeartbeats 4000000
def by8 (l:List UInt8) (i:Nat):UInt8:=l.getD i 0
def oV (c:UInt8):Bool:=decide ((97:Int)≤(c.toNat:Int)∧(c.toNat:Int)≤122) || decide ((48:Int)≤(c.toNat:Int)∧(c.toNat:Int)≤57)
def O4 (c:UInt8):Bool:=decide (c=45) || decide (c=95) || decide (c=46)
def AP (l:List UInt8) (i:Nat):Bool:=oV (by8 l i) || (!decide (i=0)&&O4 (by8 l i))
def ji (l:List UInt8):Bool:=(List.range l.length).all (AP l)&& !decide (l=[])
theorem jJ {p:Nat→Bool} {i:Nat} :(List.range (i+1)).all p=((List.range i).all p&&p i):=by
 rw[List.range_succ,List.all_append];simp
theorem gY {p:Nat→Bool} {n i:Nat} (h:i<n) (hp:p i=false):(List.range n).all p=false:=by
 rw[List.all_eq_false];exact⟨i,List.mem_range.2 h,by simp[hp]⟩
theorem NV (c:UInt8):decide (Lib.indexByte [45,95,46] c<0)= !O4 c:=by
 unfold O4;by_cases h1:c=45
 ·subst h1;rfl
 ·by_cases h2:c=95
  ·subst h2;rfl
  ·by_cases h3:c=46
   ·subst h3;rfl
   ·have e1:((45:UInt8)==c)=false:=(by simpa using fun h=>h1 h.symm);have e2:((95:UInt8)==c)=false:=(by simpa using fun h=>h2 h.symm);have e3:((46:UInt8)==c)=false:=(by simpa using fun h=>h3 h.symm);simp[Lib.indexByte,e1,e2,e3,h1,h2,h3]
theorem UU (c:UInt8):((c.toNat:Int).toNat).toUInt8=c:=by simp
theorem gK (s:Bs):s=⟨#[]⟩↔bsL s=[]:=⟨fun h=>by rw[h];rfl,fun h=>nD h⟩
theorem rJ (s:Bs) (hs:s.size≤4611686018427387904):CallsOK Tryz.prog 141 [sV s] (bV (ji (bsL s))) []:=by
 refine aN mixed Tryz.call141 Tryz.func141 rfl (by rw[Tryz.ntmps141];simp) ?_ rfl;rw[Tryz.ntmps141];have hl:(bsL s).length=s.size:=gy s;refine aR fun K' hK=> ?_
 simp;apply hK;clear K' hK;apply aA;refine aR fun K' hK=> ?_
 simp;apply hK;clear K' hK;apply aB
 refine bH (fun t G nx=>t 0=sV s∧t 7=iV s.size∧∃i:Nat,t 8=iV i∧i≤s.size∧(List.range i).all (AP (bsL s))=true) (fun s' _ _=>match s' 8 with | .v (.int _ n)=>s.size-n.toNat | _=>0) ?_ ?_
 ·exact⟨by simp,by simp,0,by simp,by omega,by simp⟩
 ·rintro t G nx-⟨t0,t7,i,t8,hi,ht⟩;have hw:IntKind.i64.wrap (↑i+1)=((i+1:Nat):Int):=dh (by omega);refine aR fun K' hK=> ?_
  simp[t7,t8];apply hK;clear K' hK;refine aC fun A B hA hB=> ?_
  simp;refine⟨fun hi2=>hA ?_,fun hi2=>hB ?_⟩<;>clear hA hB A B<;>(try simp at hi2)<;>(try with_reducible refine aK ?_)
  ·skip;apply aB;refine aR fun K' hK=> ?_
   simp[t8];apply hK;clear K' hK;refine aR fun K' hK=> ?_
   simp[t0,t8,hi2];apply hK;clear K' hK;generalize hc:pG s i=c;have hcc:by8 (bsL s) i=c:=hc;refine fC (fun t' G' nx'=>t' 0=sV s∧t' 3=iV i∧t' 4=.v (.int .u8 c.toNat)∧t' 5=bV (oV c)∧t' 7=iV s.size∧t' 8=iV i) ?_ ?_
   ·by_cases a1:(97:Int)≤(c.toNat:Int)
    ·by_cases a2:(c.toNat:Int)≤122
     ·skip;refine aS fun K' hK=> ?_
      simp[a1,a2];apply hK;clear K' hK;with_reducible refine bP ?_
      simp[t0,t7,t8,oV,a1,a2]
     ·have a3:¬(c.toNat:Int)≤57:=(by omega);by_cases a4:(48:Int)≤(c.toNat:Int)
      ·skip;refine aS fun K' hK=> ?_
       simp[a1,a2,a3,a4];apply hK;clear K' hK;with_reducible refine bP ?_
       simp[t0,t7,t8,oV,a1,a2,a3]
      ·omega
    ·by_cases a4:(48:Int)≤(c.toNat:Int)
     ·by_cases a3:(c.toNat:Int)≤57
      ·skip;refine aS fun K' hK=> ?_
       simp[a1,a3,a4];apply hK;clear K' hK;with_reducible refine bP ?_
       simp[t0,t7,t8,oV,a1,a3,a4]
      ·skip;refine aS fun K' hK=> ?_
       simp[a1,a3,a4];apply hK;clear K' hK;with_reducible refine bP ?_
       simp[t0,t7,t8,oV,a1,a3]
     ·skip;refine aS fun K' hK=> ?_
      simp[a1,a4];apply hK;clear K' hK;with_reducible refine bP ?_
      simp[t0,t7,t8,oV,a1,a4]
   ·rintro u G' nx' ⟨u0,u3,u4,u5,u7,u8⟩;cases hwd:oV c with
    | true=>
     rw[hwd]at u5;refine aR fun K' hK=> ?_
     simp[u5];apply hK;clear K' hK;refine aVk (by simp) ?_;apply aj
     refine ah ?_;refine aS fun K' hK=> ?_
     simp[u8,hw];apply hK;clear K' hK;refine aj (ay ?_ ?_)
     ·exact⟨by simp[u0],by simp[u7],i+1,by simp[hw],by omega,by rw[jJ,ht];simp[AP,hcc,hwd]⟩
     ·simp[t8,u8,hw];omega
    | false=>
     rw[hwd]at u5;cases i with
     | zero=>
      refine aR fun K' hK=> ?_
      simp[u3,u5];apply hK;clear K' hK;refine aU (by simp) ?_;apply aA;refine aR fun K' hK=> ?_
      simp;apply hK;clear K' hK;apply aJ
      simp[au,aG,Post,aW,res1,bF,bC,aP,bg,bf,okT,okA,ok1,rowOf,Tryz.f141];simp only[ji,gY (i:=0) (n:=(bsL s).length) (by omega) (show AP (bsL s) 0=false by simp[AP,hcc,hwd]),Bool.false_and]
     | succ j=>
      have hj0:¬((j:Int)+1=0):=(by omega);refine aR fun K' hK=> ?_
      simp[u3,u4,u5,hj0];refine ak (ED ⟨#[45,95,46]⟩ c.toNat) rfl rfl ?_;have hsep:decide (Lib.indexByte (bsL ⟨#[45,95,46]⟩) (c.toNat:Int).toNat.toUInt8<0)= !O4 c:=(by rw[UU];exact NV c);generalize Lib.indexByte (bsL ⟨#[45,95,46]⟩) (c.toNat:Int).toNat.toUInt8=q at hsep;cases hsp:O4 c with
      | true=>
       rw[hsp]at hsep;have hq:¬q<0:=(by simpa using hsep);simp[hq];apply hK;clear K' hK;refine aVk (by simp) ?_;apply aj
       refine ah ?_;refine aS fun K' hK=> ?_
       simp[u8,hw];apply hK;clear K' hK;refine aj (ay ?_ ?_)
       ·refine⟨by simp[u0],by simp[u7],j+1+1,?_,by omega,by rw[jJ,ht];simp[AP,hcc,hsp]⟩;have:IntKind.i64.wrap ((j:Int)+1+1)=(j:Int)+1+1:=wrap64 (by omega) (by omega);simp[this]
       ·have:IntKind.i64.wrap ((j:Int)+1+1)=(j:Int)+1+1:=wrap64 (by omega) (by omega);simp[t8,u8,this];omega
      | false=>
       rw[hsp]at hsep;have hq:q<0:=(by simpa using hsep);simp[hq];apply hK;clear K' hK;refine aU (by simp) ?_;apply aA;refine aR fun K' hK=> ?_
       simp;apply hK;clear K' hK;apply aJ
       simp[au,aG,Post,aW,res1,bF,bC,aP,bg,bf,okT,okA,ok1,rowOf,Tryz.f141];simp only[ji,gY (i:=j+1) (n:=(bsL s).length) (by omega) (show AP (bsL s) (j+1)=false by simp[AP,hcc,hwd,hsp]),Bool.false_and]
  ·skip;apply bG
   refine aI (aH ?_);refine aR fun K' hK=> ?_
   simp[t0];apply hK;clear K' hK;apply aF
   simp[au,aG,Post,aW,res1,bF,bC,aP,bg,bf,okT,okA,ok1,rowOf,Tryz.f141];have:i=(bsL s).length:=(by omega);rw[this]at ht;simp[ji,ht,gK]
set_option maxRecDepth 100000
set_option maxHeartbeats 4000000
def RF:List UInt8:=[110,111,100,101,95,109,111,100,117,108,101,115]
def jq (l:List UInt8):Bool:=if 40<l.length∨l=RF then false else if Lib.hasPrefix l [64]=false then ji l else
 let c:=Lib.cut (Lib.trimPrefix l [64]) [47]
 c.2.2&&(ji c.1&&ji c.2.1)
theorem jg (l:List UInt8):(ofL l).size=l.length:=by simp[ofL,ByteArray.size]
theorem trimPrefix_le (l p:List UInt8):(Lib.trimPrefix l p).length≤l.length:=by
 unfold Lib.trimPrefix;split<;>simp
theorem Uo (l p:List UInt8):(Lib.cut l p).1.length≤l.length∧(Lib.cut l p).2.1.length≤l.length:=by
 unfold Lib.cut;split
 ·simp;omega
 ·simp
theorem vC (s:Bs) (hs:s.size≤4000000000):CallsOK Tryz.prog 98 [sV s] (bV (jq (bsL s))) []:=by
 refine aN mixed Tryz.call98 Tryz.func98 rfl (by rw[Tryz.ntmps98];simp) ?_ rfl;rw[Tryz.ntmps98];have hl:(bsL s).length=s.size:=gy s;have hn:(s=⟨#[110,111,100,101,95,109,111,100,117,108,101,115]⟩)↔bsL s=RF:=⟨fun h=>by rw[h];rfl,fun h=>nD (by rw[h];rfl)⟩;refine aR fun K' hK=> ?_
 simp;apply hK;clear K' hK;by_cases h1:(40:Int)<s.size
 ·refine aA ?_;refine aR fun K' hK=> ?_
  simp[h1];apply hK;clear K' hK;refine aX (by simp) ?_;apply aA;refine aR fun K' hK=> ?_
  simp;apply hK;clear K' hK;apply aJ
  simp[au,aG,Post,aW,res1,bF,bC,aP,bg,bf,okT,okA,ok1,rowOf,Tryz.f98];rw[jq,if_pos (.inl (by omega))]
 ·by_cases h2:s=⟨#[110,111,100,101,95,109,111,100,117,108,101,115]⟩
  ·refine aA ?_;refine aR fun K' hK=> ?_
   simp[h1,h2];apply hK;clear K' hK;refine aX (by simp) ?_;apply aA;refine aR fun K' hK=> ?_
   simp;apply hK;clear K' hK;apply aJ
   simp[au,aG,Post,aW,res1,bF,bC,aP,bg,bf,okT,okA,ok1,rowOf,Tryz.f98];rw[jq,if_pos (.inr (hn.1 h2))]
  ·have hg:jq (bsL s)=if Lib.hasPrefix (bsL s) [64]=false then ji (bsL s)else(Lib.cut (Lib.trimPrefix (bsL s) [64]) [47]).2.2&&(ji (Lib.cut (Lib.trimPrefix (bsL s) [64]) [47]).1&&ji (Lib.cut (Lib.trimPrefix (bsL s) [64]) [47]).2.1):=by
    rw[jq,if_neg (by
     rintro(h | h)
     ·omega
     ·exact h2 (hn.2 h))]
   rw[hg];apply aA;refine aR fun K' hK=> ?_
   simp[h1,h2];apply hK;clear K' hK;refine aYk (by simp) ?_;refine aR fun K' hK=> ?_
   simp;refine ak (EG s ⟨#[64]⟩) rfl rfl ?_;simp;apply hK;clear K' hK;cases hp:Lib.hasPrefix (bsL s) [64]with
   | false=>
    have hp':Lib.hasPrefix (bsL s) (bsL ⟨#[64]⟩)=false:=hp;apply aA;refine aR fun K' hK=> ?_
    simp[hp'];apply hK;clear K' hK;refine aX (by simp) ?_;apply aA;refine aR fun K' hK=> ?_
    simp;refine ak (rJ s (by omega)) rfl (by simp) ?_;simp;apply hK;clear K' hK;apply aJ
    simp[au,aG,Post,aW,res1,bF,bC,aP,bg,bf,okT,okA,ok1,rowOf,Tryz.f98]
   | true=>
    have hp':Lib.hasPrefix (bsL s) (bsL ⟨#[64]⟩)=true:=hp;have e1:Lib.trimPrefix (bsL s) (bsL ⟨#[64]⟩)=Lib.trimPrefix (bsL s) [64]:=rfl;have hlt:=trimPrefix_le (bsL s) [64];generalize Lib.trimPrefix (bsL s) [64]=r at*;apply aA;refine aR fun K' hK=> ?_
    simp[hp',e1];apply hK;clear K' hK;refine aYk (by simp) ?_;refine aR fun K' hK=> ?_
    simp;refine ak (VB (ofL r) ⟨#[47]⟩ (by rw[jg];omega)) rfl (by simp) ?_;simp;apply hK;clear K' hK;have e2:bsL ⟨#[47]⟩=[47]:=rfl;have hcl:=Uo r [47];rw[e2];generalize Lib.cut r [47]=q at*;obtain⟨q1,q2,q3⟩:=q;cases q3 with
    | false=>
     refine aR fun K' hK=> ?_
     simp;apply hK;clear K' hK;apply aF
     simp[au,aG,Post,aW,res1,bF,bC,aP,bg,bf,okT,okA,ok1,rowOf,Tryz.f98]
    | true=>
     refine aR fun K' hK=> ?_
     simp;refine ak (rJ (ofL q1) (by rw[jg];simp only at hcl;omega)) rfl (by simp) ?_;cases hp1:ji q1 with
     | false=>
      simp[hp1];apply hK;clear K' hK;apply aF
      simp[au,aG,Post,aW,res1,bF,bC,aP,bg,bf,okT,okA,ok1,rowOf,Tryz.f98,hp1]
     | true=>
      simp[hp1];refine ak (rJ (ofL q2) (by rw[jg];simp only at hcl;omega)) rfl (by simp) ?_;cases hp2:ji q2<;>simp[hp2]
      ·apply hK;clear K' hK;apply aF
       simp[au,aG,Post,aW,res1,bF,bC,aP,bg,bf,okT,okA,ok1,rowOf,Tryz.f98,hp1,hp2]
      ·apply hK;clear K' hK;apply aF
       simp[au,aG,Post,aW,res1,bF,bC,aP,bg,bf,okT,okA,ok1,rowOf,Tryz.f98,hp1,hp2]
def kH (l:List UInt8):Bool:= !decide (l=[])&&decide (Lib.trimS l QV=[])
def jm (l:List UInt8):Bool:=kH l&&(decide (l.length≤6)&&(!decide (by8 l 0=48) || decide (l=[48])))
theorem pO (s:Bs) (hs:s.size≤4000000000):CallsOK Tryz.prog 184 [sV s] (.tup [iV (qy (bsL s)),bV (kH (bsL s)),bV (jm (bsL s))]) []:=by
 refine aN mixed Tryz.call184 Tryz.func184 rfl (by rw[Tryz.ntmps184];simp) ?_ rfl;rw[Tryz.ntmps184];have hl:(bsL s).length=s.size:=gy s;have h0:(s=⟨#[48]⟩)↔bsL s=[48]:=⟨fun h=>by rw[h];rfl,fun h=>nD (by rw[h];rfl)⟩;refine aR fun K' hK=> ?_
 simp;apply hK;clear K' hK;refine fC (fun t G nx=>t 0=sV s∧t 3=bV (kH (bsL s))) ?_ ?_
 ·by_cases he:s=⟨#[]⟩
  ·have:kH (bsL s)=false:=(by simp[kH,(gK s).1 he]);refine aS fun K' hK=> ?_
   simp[he];apply hK;clear K' hK;with_reducible refine bP ?_
   simp[he];rw[he]at this;exact this
  ·have hne:¬bsL s=[]:=fun h=>he ((gK s).2 h);refine aS fun K' hK=> ?_
   simp[he];refine ak (Uw s (by omega)) rfl rfl ?_;simp;apply hK;clear K' hK;with_reducible refine bP ?_
   have e1:(ofL (Lib.trimS (bsL s) QV)=⟨#[]⟩)↔Lib.trimS (bsL s) QV=[]:=(by rw[gK,EN]);simp[kH,hne,e1]
 ·rintro t G nx ⟨t0,t3⟩;refine fC (fun t G nx=>t 0=sV s∧t 3=bV (kH (bsL s))∧t 4=bV (jm (bsL s))) ?_ ?_
  ·cases hp:kH (bsL s)with
   | false=>
    rw[hp]at t3;refine aS fun K' hK=> ?_
    simp[t0,t3];apply hK;clear K' hK;with_reducible refine bP ?_
    simp[t0,t3,jm,hp]
   | true=>
    rw[hp]at t3;have hne:¬bsL s=[]:=fun h=>(by simp[kH,h]at hp);have hpos:(0:Int)<s.size:=by
     have:0<(bsL s).length:=List.length_pos_iff.2 hne;omega
    have hposN:0<s.size:=(by omega);by_cases h6:(s.size:Int)≤6
    ·have h6':(bsL s).length≤6:=(by omega);generalize hc:pG s 0=c;have hcc:by8 (bsL s) 0=c:=hc;by_cases hz:c=48
     ·have hz':((c.toNat:Int)=48):=(by rw[hz];rfl);by_cases h48:s=⟨#[48]⟩
      ·subst h48;refine aS fun K' hK=> ?_
       simp[t0,t3];apply hK;clear K' hK;with_reducible refine bP ?_
       simp[t0,t3,jm,hp];rfl
      ·have h48':¬bsL s=[48]:=fun h=>h48 (h0.2 h);refine aS fun K' hK=> ?_
       simp[t0,t3,h6,hpos,hposN,hc,hz',h48,sV];apply hK;clear K' hK;with_reducible refine bP ?_
       simp[t0,t3,jm,hp,h6',hcc,hz,h48']
     ·have hz':¬((c.toNat:Int)=48):=fun h=>hz (by
       have:c.toNat=48:=(by omega);exact UInt8.toNat_inj.1 this)
      refine aS fun K' hK=> ?_
      simp[t0,t3,h6,hpos,hposN,hc,hz',sV];apply hK;clear K' hK;with_reducible refine bP ?_
      simp[t0,t3,jm,hp,h6',hcc,hz]
    ·have h6':¬(bsL s).length≤6:=(by omega);refine aS fun K' hK=> ?_
     simp[t0,t3,h6];apply hK;clear K' hK;with_reducible refine bP ?_
     simp[t0,t3,jm,hp,h6'];done
  ·clear t0 t3;rintro t G nx ⟨t0,t3,t4⟩;refine aR fun K' hK=> ?_
   simp[t0];refine ak (TF s (by omega)) rfl (by simp) ?_;simp;apply hK;clear K' hK;refine aR fun K' hK=> ?_
   simp[t3,t4];apply hK;clear K' hK;apply aF
   simp[au,aG,Post,aW,res1,bF,bC,aP,bg,bf,okT,okA,ok1,rowOf,Tryz.f184]
set_option maxRecDepth 100000
set_option maxHeartbeats 4000000
def UM (c:UInt8):Int:=bits .or .u8 (c.toNat:Int) 32
def TY (c:UInt8):Bool:=decide ((97:Int)≤UM c)&&decide (UM c≤122)
def mG (c:UInt8):Bool:=TY c || (decide ((48:Int)≤(c.toNat:Int))&&decide ((c.toNat:Int)≤57)) || decide ((c.toNat:Int)=45)
def iR (l:List UInt8):Bool:=(List.range l.length).all (fun i=>mG (by8 l i))&&(!decide (l=[])&&(decide (l.length≤10)&&(kH l==jm l)))
@[simp] theorem or32 (c:UInt8):bits .or .u8 (c.toNat:Int) 32=UM c:=rfl
theorem KG (s:Bs) (hs:s.size≤4000000000):CallsOK Tryz.prog 175 [sV s] (bV (iR (bsL s))) []:=by
 refine aN mixed Tryz.call175 Tryz.func175 rfl (by rw[Tryz.ntmps175];simp) ?_ rfl;rw[Tryz.ntmps175];have hl:(bsL s).length=s.size:=gy s;refine aR fun K' hK=> ?_
 simp;apply hK;clear K' hK;apply aA;refine aR fun K' hK=> ?_
 simp;apply hK;clear K' hK;apply aB
 refine bH (fun t G nx=>t 0=sV s∧t 10=iV s.size∧∃i:Nat,t 11=iV i∧i≤s.size∧(List.range i).all (fun i=>mG (by8 (bsL s) i))=true) (fun s' _ _=>match s' 11 with | .v (.int _ n)=>s.size-n.toNat | _=>0) ?_ ?_
 ·exact⟨by simp,by simp,0,by simp,by omega,by simp⟩
 ·rintro t G nx-⟨t0,t10,i,t11,hi,ht⟩;have hw:IntKind.i64.wrap (↑i+1)=((i+1:Nat):Int):=dh (by omega);refine aR fun K' hK=> ?_
  simp[t10,t11];apply hK;clear K' hK;refine aC fun A B hA hB=> ?_
  simp;refine⟨fun hi2=>hA ?_,fun hi2=>hB ?_⟩<;>clear hA hB A B<;>(try simp at hi2)<;>(try with_reducible refine aK ?_)
  ·skip;apply aB;refine aR fun K' hK=> ?_
   simp[t11];apply hK;clear K' hK;refine aR fun K' hK=> ?_
   simp[t0,t11,hi2];apply hK;clear K' hK;generalize hc:pG s i=c;have hcc:by8 (bsL s) i=c:=hc;refine fC (fun t' G' nx'=>t' 0=sV s∧t' 3=iV i∧t' 4=.v (.int .u8 c.toNat)∧t' 5=bV (TY c)∧t' 10=iV s.size∧t' 11=iV i) ?_ ?_
   ·by_cases a1:(97:Int)≤UM c
    ·skip;refine aS fun K' hK=> ?_
     simp[a1];apply hK;clear K' hK;with_reducible refine bP ?_
     simp[t0,t10,t11,TY,a1]
    ·skip;refine aS fun K' hK=> ?_
     simp[a1];apply hK;clear K' hK;with_reducible refine bP ?_
     simp[t0,t10,t11,TY,a1]
   ·rintro u G' nx' ⟨u0,u3,u4,u5,u10,u11⟩;cases hw1:TY c with
    | true=>
     rw[hw1]at u5;refine aR fun K' hK=> ?_
     simp[u4,u5];apply hK;clear K' hK;refine aVk (by simp) ?_;apply aj
     refine ah ?_;refine aS fun K' hK=> ?_
     simp[u11,hw];apply hK;clear K' hK;refine aj (ay ?_ ?_)
     ·exact⟨by simp[u0],by simp[u10],i+1,by simp[hw],by omega,by rw[jJ,ht];simp[hcc,mG,hw1]⟩
     ·simp[t11,u11,hw];omega
    | false=>
     rw[hw1]at u5;by_cases b1:(c.toNat:Int)<48
     ·by_cases b2:(c.toNat:Int)=45
      ·skip;refine aR fun K' hK=> ?_
       simp[u4,u5,b1,b2];apply hK;clear K' hK;refine aVk (by simp) ?_;apply aj
       refine ah ?_;refine aS fun K' hK=> ?_
       simp[u11,hw];apply hK;clear K' hK;refine aj (ay ?_ ?_)
       ·exact⟨by simp[u0],by simp[u10],i+1,by simp[hw],by omega,by rw[jJ,ht];simp[hcc,mG,b2]⟩
       ·simp[t11,u11,hw];omega
      ·skip;refine aR fun K' hK=> ?_
       simp[u4,u5,b1,b2];apply hK;clear K' hK;refine aU (by simp) ?_;apply aA;refine aR fun K' hK=> ?_
       simp;apply hK;clear K' hK;apply aJ
       simp[au,aG,Post,aW,res1,bF,bC,aP,bg,bf,okT,okA,ok1,rowOf,Tryz.f175];have:mG c=false:=(by simp[mG,hw1,b2];omega);simp only[iR,gY (p:=fun i=>mG (by8 (bsL s) i)) (i:=i) (n:=(bsL s).length) (by omega) (show mG (by8 (bsL s) i)=false by rw[hcc,this]),Bool.false_and]
     ·by_cases b3:(c.toNat:Int)≤57
      ·have b4:¬(57:Int)<c.toNat:=(by omega);refine aR fun K' hK=> ?_
       simp[u4,u5,b1,b4];apply hK;clear K' hK;refine aVk (by simp) ?_;apply aj
       refine ah ?_;refine aS fun K' hK=> ?_
       simp[u11,hw];apply hK;clear K' hK;refine aj (ay ?_ ?_)
       ·exact⟨by simp[u0],by simp[u10],i+1,by simp[hw],by omega,by rw[jJ,ht];simp[hcc,mG,hw1];omega⟩
       ·simp[t11,u11,hw];omega
      ·have b4:(57:Int)<c.toNat:=(by omega);have b2:¬(c.toNat:Int)=45:=(by omega);refine aR fun K' hK=> ?_
       simp[u4,u5,b1,b4,b2];apply hK;clear K' hK;refine aU (by simp) ?_;apply aA;refine aR fun K' hK=> ?_
       simp;apply hK;clear K' hK;apply aJ
       simp[au,aG,Post,aW,res1,bF,bC,aP,bg,bf,okT,okA,ok1,rowOf,Tryz.f175];have:mG c=false:=(by simp[mG,hw1,b2];omega);simp only[iR,gY (p:=fun i=>mG (by8 (bsL s) i)) (i:=i) (n:=(bsL s).length) (by omega) (show mG (by8 (bsL s) i)=false by rw[hcc,this]),Bool.false_and]
  ·skip;apply bG
   refine aI (aH ?_);refine aR fun K' hK=> ?_
   simp[t0];refine ak (pO s hs) rfl (by simp) ?_;simp;apply hK;clear K' hK;have:i=(bsL s).length:=(by omega);rw[this]at ht;by_cases he:s=⟨#[]⟩
   ·have he':=(gK s).1 he;refine aR fun K' hK=> ?_
    simp[t0,he];apply hK;clear K' hK;apply aF
    simp[au,aG,Post,aW,res1,bF,bC,aP,bg,bf,okT,okA,ok1,rowOf,Tryz.f175];simp[iR,he',←he]
   ·have he':¬bsL s=[]:=fun h=>he ((gK s).2 h);by_cases h10:(s.size:Int)≤10
    ·have h10':(bsL s).length≤10:=(by omega);refine aR fun K' hK=> ?_
     simp[t0,he,h10];apply hK;clear K' hK;apply aF
     simp[au,aG,Post,aW,res1,bF,bC,aP,bg,bf,okT,okA,ok1,rowOf,Tryz.f175];simp[iR,he',h10',ht]
    ·have h10':¬(bsL s).length≤10:=(by omega);refine aR fun K' hK=> ?_
     simp[t0,he,h10];apply hK;clear K' hK;apply aF
     simp[au,aG,Post,aW,res1,bF,bC,aP,bg,bf,okT,okA,ok1,rowOf,Tryz.f175];simp[iR,he',h10']
set_option maxRecDepth 100000
set_option maxHeartbeats 4000000
def pW:Nat→List UInt8→Bool
 | 0,_=>false
 | k+1,l=>if Lib.indexByte l 46<0 then iR l else iR (l.take (Lib.indexByte l 46).toNat)&&pW k (l.drop ((Lib.indexByte l 46).toNat+1))
def oI (l:List UInt8):Bool:=decide (l=[]) || pW 5 l
theorem yU (v:Ver) (hs:v.pre.size≤4000000000):CallsOK Tryz.prog 138 [.agg v.cells] (bV (oI (bsL v.pre)&&(inR v.maj&&(inR v.min&&inR v.pat)))) []:=by
 refine aN mixed Tryz.call138 Tryz.func138 rfl (by rw[Tryz.ntmps138];simp) ?_ rfl;rw[Tryz.ntmps138];refine aR fun K' hK=> ?_
 simp;apply hK;clear K' hK;apply aA;refine aR fun K' hK=> ?_
 simp;apply hK;clear K' hK;refine Ar (fun t G nx=>t 1=.ptr 0 0∧t 2=.ptr 1 0∧G 0=some (.var 23 v.cells)∧G 1=some (.var 4 [bV false])∧oI (bsL v.pre)=true∧2≤nx) ?_ ?_
 ·by_cases he:v.pre=⟨#[]⟩
  ·skip;refine aVk (by simp[he]) ?_;refine kX ?_
   simp[oI,he];exact .inl rfl
  ·skip;refine aU (by simp[he]) ?_;apply aA;refine aR fun K' hK=> ?_
   simp;apply hK;clear K' hK;apply aA;refine aR fun K' hK=> ?_
   simp;refine dH (zY mixed Tryz.call174 Tryz.func174 rfl (by rw[Tryz.ntmps174];simp) fun hf=> ?_);rw[Tryz.ntmps174];refine aR fun K' hK=> ?_
   simp;apply hK;clear K' hK;refine aR fun K' hK=> ?_
   simp;refine dH (zY mixed Tryz.call207 Tryz.func207 rfl (by rw[Tryz.ntmps207];simp) fun hf=> ?_);rw[Tryz.ntmps207];refine aR fun K' hK=> ?_
   simp;apply hK;clear K' hK;refine aR fun K' hK=> ?_
   simp;apply hK;clear K' hK;apply aF
   simp[au,aG,Post,aW,res1,bF,bC,aP,bg,bf,okT,okA,ok1,rowOf,Tryz.f207];apply hK;clear K' hK;apply aF
   simp[au,aG,Post,aW,res1,bF,bC,aP,bg,bf,okT,okA,ok1,rowOf,Tryz.f174];apply hK;clear K' hK;refine fV (fun t G nx=>t 1=.ptr 0 0∧t 2=.ptr 1 0∧t 3=.ptr 2 0∧t 10=.fn 236 [.ptr 4 0,.ptr 3 0,.ptr 5 0]∧nx=6∧G 0=some (.var 23 v.cells)∧G 1=some (.var 4 [bV false])∧G 2=some (.var 3 [iV 0])∧G 3=some (.var 9 [sV v.pre])∧G 4=some (.var 9 [sV ⟨#[46]⟩])∧G 5=some (.var 3 [iV 0])) ?_ ?_
   ·simp;done
   rintro t G nx ⟨t1,t2,t3,t10,rfl,g0,g1,g2,g3,g4,g5⟩;apply aB
   refine jQ (f:=236) (fn:=Tryz.f236) mixed t10 Tryz.call236 Tryz.func236 rfl (by rw[Tryz.ntmps236];simp) rfl ?_;rw[Tryz.ntmps236];generalize hL:(Lp.mk t 29 _ _ _)=L;have hLs:L.s=t:=(by subst hL;rfl);have hne:¬bsL v.pre=[]:=fun h=>he ((gK _).2 h);have hround:∀(b:Bs) (c:Nat) (K:AV→Hp→Nat→Prop) (G:Hp) (nx:Nat),b.size≤4000000000→c≤5→G 0=some (.var 23 v.cells)→G 1=some (.var 4 [bV false])→G 2=some (.var 3 [iV c])→G 6=some (L.o .ready none)→
     (iR (bsL b)=true→c+1≤5→K (bV true) (((G.upd 6 (L.o .busy none)).upd 2 (.var 3 [iV (c+1:Nat)])).upd 6 (L.o .ready none)) nx)→
     (iR (bsL b)=false∨¬c+1≤5→K (bV false) ((((G.upd 6 (L.o .busy none)).upd 2 (.var 3 [iV (c+1:Nat)])).upd 1 (.var 4 [bV false])).upd 6 (L.o .done (some .ret))) nx)→DT Tryz.prog 6 [sV b] K G nx:=by
    subst hL;clear g0 g1 g2 g3 g4 g5;intro b c K G nx hb hc g0 g1 g2 g6 k1 k2;refine Oi mixed g6 rfl (by simp) rfl rfl fun hf=> ?_;have hw:IntKind.i64.wrap (↑c+1)=((c+1:Nat):Int):=dh (by omega);refine aS fun K' hK=> ?_
    simp;apply hK;clear K' hK;refine⟨rfl,g6,?_⟩;dsimp only;generalize (Lp.mk t 29 _ _ _)=L at g6 k1 k2⊢;refine dL (aB ?_);refine aR fun K' hK=> ?_
    simp[t3,g2,hw];apply hK;clear K' hK;refine aR fun K' hK=> ?_
    simp;refine ak (KG b hb) rfl (by simp) ?_;by_cases hgo:iR (bsL b)=true∧c+1≤5
    ·have h5:¬(5:Int)<(c+1:Nat):=(by omega);simp[hgo.1,t3,h5];apply hK;clear K' hK
     (first | with_reducible refine aC fun A B hA hB=> ?_ | with_reducible refine aD fun A B hA hB=> ?_)
     simp;refine⟨fun hc=>hA ?_,fun hc=>hB ?_⟩<;>clear hA hB A B<;>(try (simp at hc;done))<;>(try (exfalso;simp at hc;omega))<;>clear hc<;>(try with_reducible refine aK ?_);apply aj
     refine ah ?_;apply aj;refine dB (by simp) ?_;exact k1 hgo.1 hgo.2
    ·cases hp:iR (bsL b)with
     | false=>
      simp[hp,t3];apply hK;clear K' hK;refine aU (by simp) ?_;apply aA;refine aR fun K' hK=> ?_
      simp[t2,g1];apply hK;clear K' hK;apply aJ;refine dP ?_;refine oz (by simp) ?_;exact k2 (.inl hp)
     | true=>
      have h5:(5:Int)<(c+1:Nat):=(by simp[hp]at hgo;omega);simp[hp,t3,h5];apply hK;clear K' hK
      (first | with_reducible refine aC fun A B hA hB=> ?_ | with_reducible refine aD fun A B hA hB=> ?_)
      simp;refine⟨fun hc=>hA ?_,fun hc=>hB ?_⟩<;>clear hA hB A B<;>(try (simp at hc;done))<;>(try (exfalso;simp at hc;omega))<;>clear hc<;>(try with_reducible refine aK ?_);apply aA;refine aR fun K' hK=> ?_
      simp[t2,g1];apply hK;clear K' hK;apply aJ;refine dP ?_;refine oz (by simp) ?_;exact k2 (.inr (by omega))
   have hz1:ByteArray.size (⟨#[46]⟩:Bs)=1:=rfl;apply aA;refine aR fun K' hK=> ?_
   simp[g4,hz1];apply hK;clear K' hK;refine aYk (by simp) ?_;apply aB
   refine bH (fun t' G' nx'=>7≤nx'∧t' 0=.yl 6∧t' 1=.ptr 4 0∧t' 2=.ptr 3 0∧t' 3=.ptr 5 0∧G' 0=some (.var 23 v.cells)∧G' 1=some (.var 4 [bV false])∧G' 4=some (.var 9 [sV ⟨#[46]⟩])∧G' 5=some (.var 3 [iV 0])∧G' 6=some (L.o .ready none)∧∃(k:Nat) (r:Bs),k≤5∧G' 2=some (.var 3 [iV (5-k:Nat)])∧G' 3=some (.var 9 [sV r])∧r.size≤4000000000∧pW 5 (bsL v.pre)=pW k (bsL r)) (fun _ G' _=>match G' 2 with | some (.var _ [.v (.int _ n)])=>5-n.toNat | _=>0) ?_ ?_
   ·refine⟨by omega,rfl,rfl,rfl,rfl,g0,g1,g4,g5,by simp,5,v.pre,by omega,g2,g3,hs,rfl⟩
   ·rintro t' G' nx'-⟨hnx,u0,u1,u2,u3,h0,h1,h4,h5,h6,k,r,hk,h2,h3,hr,hd⟩;have hl:(bsL r).length=r.size:=gy r;refine dL (aB ?_);refine aR fun K' hK=> ?_
    simp[u1,u2,h3,h4];refine ak (SE r 46) rfl (by simp) ?_;simp;apply hK;clear K' hK;generalize hi:Lib.indexByte (bsL r) 46=i;apply aA;refine aR fun K' hK=> ?_
    simp;apply hK;clear K' hK;refine aC fun A B hA hB=> ?_
    simp;refine⟨fun hneg=>hA ?_,fun hneg=>hB ?_⟩<;>clear hA hB A B<;>(try simp at hneg)<;>(try with_reducible refine aK ?_)
    ·refine bG (eF (by decide) (aI (aH ?_)));refine aS fun K' hK=> ?_
     simp[u0,u2,h3];refine⟨⟨_,_,_,_,_,_,_,h6⟩,hround r (5-k) _ _ _ hr (by omega) h0 h1 h2 h6 (fun hp hc=> ?_) (fun hn=> ?_)⟩
     ·simp;apply hK;clear K' hK;refine aj (iw (.inl rfl) (by simp) ?_);rw[hLs];refine ah (kX ⟨t1,t2,by simp[h0],by simp[h1],?_,by omega⟩);have:oI (bsL v.pre)=pW 5 (bsL v.pre):=(by simp[oI,hne]);rw[this,hd];cases k with
      | zero=>omega
      | succ k=>simp[pW,hi,hneg,hp]
     ·simp;apply hK;clear K' hK;refine aj (oh (.inl rfl) (by simp) ?_);rw[hLs];have:oI (bsL v.pre)=false:=by
       have:oI (bsL v.pre)=pW 5 (bsL v.pre):=(by simp[oI,hne]);rw[this,hd];cases k with
       | zero=>rfl
       | succ k=>
        have:iR (bsL r)=false:=hn.resolve_right (by omega);simp[pW,hi,hneg,this]
      refine dP ?_;simp[DR,Post,aW,res1,bF,bC,aP,bg,bf,okT,okA,ok1,rowOf,Tryz.f138,this,t2]
    ·obtain⟨n,rfl⟩:∃n:Nat,i=n:=⟨i.toNat,by omega⟩;have hn:n<r.size:=by
      have:=(Lib.indexByte_some hi).1;have:=(List.getElem?_eq_some_iff.1 this).1;omega
     have hw0:IntKind.i64.wrap (n:Int)=n:=wrap64 (by omega) (by omega);refine aR fun K' hK=> ?_
     simp[u2,u3,h3,h5,je,hw0,Nat.le_of_lt hn];apply hK;clear K' hK;apply aA;refine aR fun K' hK=> ?_
     simp[u0];have hsz:(r.extract 0 n).size≤4000000000:=(by simp;omega);have hle:bsL (r.extract 0 n)=(bsL r).take n:=(by simp[bsL]);have hle2:bsL (r.extract (n+1) r.size)=(bsL r).drop (n+1):=by
      have:r.data.toList.length=r.size:=hl;simp[bsL];rw[List.take_of_length_le (by simp[this])]
     have hdk:∀j,pW (j+1) (bsL r)=(iR ((bsL r).take n)&&pW j ((bsL r).drop (n+1))):=fun j=>by
      rw[pW,hi,if_neg (by omega:¬(n:Int)<0)];simp
     refine⟨⟨_,_,_,_,_,_,_,h6⟩,hround (r.extract 0 n) (5-k) _ _ _ hsz (by omega) h0 h1 h2 h6 (fun hp hc=> ?_) (fun hn=> ?_)⟩
     ·simp;apply hK;clear K' hK;refine aYk (by simp) ?_
      have hw1:IntKind.i64.wrap ((n:Int)+1)=((n+1:Nat):Int):=dh (by omega);have hp1:(0:Int)≤(n:Int)+1:=(by omega);have hp2:n+1≤r.size:=(by omega);refine aS fun K' hK=> ?_
      simp[u1,u2,h3,h4,hz1,hw1,je,hp1,hp2];apply hK;clear K' hK;apply aj
      refine ah ?_;refine aj (ay ?_ ?_)
      ·cases k with
       | zero=>omega
       | succ k=>
        refine⟨hnx,by simp[u0],by simp[u1],by simp[u2],by simp[u3],by simp[h0],by simp[h1],by simp[h4],by simp[h5],by simp,k,r.extract (n+1) r.size,by omega,?_,by simp,by simp;omega,?_⟩
        ·have:(5-k:Nat)=(5-(k+1))+1:=(by omega);simp[this]
        ·rw[hle]at hp;rw[hd,hdk,hp,hle2];rfl
      ·simp[h2];omega
     ·simp;apply hK;clear K' hK;refine aX (by simp) ?_
      refine aJ (dP (ng (dP ?_)));refine oh (.inr rfl) (by simp) ?_;rw[hLs];have:oI (bsL v.pre)=false:=by
       have:oI (bsL v.pre)=pW 5 (bsL v.pre):=(by simp[oI,hne]);rw[this,hd];cases k with
       | zero=>rfl
       | succ k=>
        have:=hn.resolve_right (by omega);rw[hle]at this;rw[hdk,this];rfl
      refine dP ?_;simp[DR,Post,aW,res1,bF,bC,aP,bg,bf,okT,okA,ok1,rowOf,Tryz.f138,this,t2]
 ·rintro t G nx ⟨t1,t2,g0,g1,hp,hnx⟩;have hn1:¬1=nx:=(by omega);refine aR fun K' hK=> ?_
  simp[t1,t2,g0];refine ak (EJ [v.maj,v.min,v.pat] (by simp)) rfl (by simp[bQ];rfl) ?_;simp[t2,g1,hn1];apply hK;clear K' hK;apply aF
  simp[au,aG,Post,aW,res1,bF,bC,aP,bg,bf,okT,okA,ok1,rowOf,Tryz.f138,t2];simp[hp]
set_option maxRecDepth 100000
set_option maxHeartbeats 4000000
def Fits (a b:Bs):Prop:=a.size+b.size≤9223372036854775807
instance (a b:Bs):Decidable (Fits a b):=inferInstanceAs (Decidable (a.size+b.size≤9223372036854775807))
@[simp] theorem str_add (P:Program) (t:TypeId) (a b:Bs):iZ P .add t (.string a) (.string b)=if Fits a b then some (.string (a++b))else none:=rfl
theorem uO (a b:Bs):(a++b).size=a.size+b.size:=ByteArray.size_append
def fD (v:Ver):Bool:=oI (bsL v.pre)&&(inR v.maj&&(inR v.min&&inR v.pat))
def wu (v:Ver):Bs:=ofL (Lib.itoa v.maj)++⟨#[46]⟩++ofL (Lib.itoa v.min)++⟨#[46]⟩++ofL (Lib.itoa v.pat)
def prV (v:Ver):Bs:=if fD v then(if v.pre=⟨#[]⟩then wu v else wu v++(⟨#[45]⟩++v.pre))else⟨#[]⟩
theorem rE {n:Int} (h:inR n=true):0≤n∧n≤999999:=by
 simpa [inR]using h
theorem KD {v:Ver} (h:fD v=true):(0≤v.maj∧v.maj≤999999)∧(0≤v.min∧v.min≤999999)∧(0≤v.pat∧v.pat≤999999):=by
 simp[fD]at h;exact⟨rE h.2.1,rE h.2.2.1,rE h.2.2.2⟩
theorem jY (v:Ver) (hs:v.pre.size≤4000000000):CallsOK Tryz.prog 97 [.agg v.cells] (.tup [sV (prV v),bV (fD v)]) []:=by
 refine aN mixed Tryz.call97 Tryz.func97 rfl (by rw[Tryz.ntmps97];simp) ?_ rfl;rw[Tryz.ntmps97];refine aR fun K' hK=> ?_
 simp;apply hK;clear K' hK;apply aA;refine aR fun K' hK=> ?_
 simp;refine ak (yU v hs) rfl (by simp) ?_;show _;cases hv:fD v with
 | false=>
  have hv':=hv;rw[fD]at hv';simp[hv'];apply hK;clear K' hK;refine aX (by simp) ?_;apply aA;refine aR fun K' hK=> ?_
  simp;apply hK;clear K' hK;apply aJ
  simp[au,aG,Post,aW,res1,bF,bC,aP,bg,bf,okT,okA,ok1,rowOf,Tryz.f97];simp[prV,hv];done
 | true=>
  have hv':=hv;rw[fD]at hv';obtain⟨i1,i2,i3⟩:=KD hv;have hpc:prV v=if v.pre=⟨#[]⟩then wu v else wu v++(⟨#[45]⟩++v.pre):=(by rw[prV,hv];rfl);have q1:=La v.maj (by omega) (by omega);have q2:=La v.min (by omega) (by omega);have q3:=La v.pat (by omega) (by omega);have s1:(ofL (Lib.itoa v.maj)).size≤21:=(by rw[jg];exact Lib.itoa_length_le _ (by omega) (by omega));have s2:(ofL (Lib.itoa v.min)).size≤21:=(by rw[jg];exact Lib.itoa_length_le _ (by omega) (by omega));have s3:(ofL (Lib.itoa v.pat)).size≤21:=(by rw[jg];exact Lib.itoa_length_le _ (by omega) (by omega));have hc:wu v=ofL (Lib.itoa v.maj)++⟨#[46]⟩++ofL (Lib.itoa v.min)++⟨#[46]⟩++ofL (Lib.itoa v.pat):=rfl;rw[hc]at hpc;clear hc;generalize ofL (Lib.itoa v.maj)=a at q1 s1 hpc;generalize ofL (Lib.itoa v.min)=b at q2 s2 hpc;generalize ofL (Lib.itoa v.pat)=c at q3 s3 hpc;have d1:ByteArray.size (⟨#[46]⟩:Bs)=1:=rfl;have d2:ByteArray.size (⟨#[45]⟩:Bs)=1:=rfl;have f1:Fits a ⟨#[46]⟩:=(by unfold Fits;omega);have f2:Fits (a++⟨#[46]⟩) b:=(by unfold Fits;simp only[uO];omega);have f3:Fits (a++⟨#[46]⟩++b) ⟨#[46]⟩:=(by unfold Fits;simp only[uO];omega);have f4:Fits (a++⟨#[46]⟩++b++⟨#[46]⟩) c:=(by unfold Fits;simp only[uO];omega);have f5:Fits ⟨#[45]⟩ v.pre:=(by unfold Fits;omega);have f6:Fits (a++⟨#[46]⟩++b++⟨#[46]⟩++c) (⟨#[45]⟩++v.pre):=(by unfold Fits;simp only[uO];omega);simp only[hv'];simp;apply hK;clear K' hK;refine aYk (by simp) ?_;refine aQ fun K' hK=> ?_
  simp;refine ak q1 rfl (by simp) ?_;simp[f1];refine ak q2 rfl (by simp) ?_;simp[f2,f3];refine ak q3 rfl (by simp) ?_;simp[f4];apply hK;clear K' hK;by_cases he:v.pre=⟨#[]⟩
  ·refine aA ?_;refine aR fun K' hK=> ?_
   simp[he];apply hK;clear K' hK;refine aYk (by simp) ?_;refine aR fun K' hK=> ?_
   simp;apply hK;clear K' hK;apply aF
   simp[au,aG,Post,aW,res1,bF,bC,aP,bg,bf,okT,okA,ok1,rowOf,Tryz.f97];rw[hpc,if_pos he];exact⟨rfl,hv⟩
  ·refine aA ?_;refine aR fun K' hK=> ?_
   simp[he];apply hK;clear K' hK;refine aX (by simp) ?_;refine aR fun K' hK=> ?_
   simp[f5,f6];apply hK;clear K' hK;refine aR fun K' hK=> ?_
   simp;apply hK;clear K' hK;apply aF
   simp[au,aG,Post,aW,res1,bF,bC,aP,bg,bf,okT,okA,ok1,rowOf,Tryz.f97];rw[hpc,if_neg he];exact⟨rfl,hv⟩
def rightF (name:Bs) (v:Ver):Bool:=fD v&&jq (bsL name)
theorem rO (name:Bs) (v:Ver) (h1:name.size≤4000000000) (hs:v.pre.size≤4000000000):CallsOK Tryz.prog 66 [sV name,.agg v.cells] (bV (rightF name v)) []:=by
 refine aN mixed Tryz.call66 Tryz.func66 rfl (by rw[Tryz.ntmps66];simp) ?_ rfl;rw[Tryz.ntmps66];refine aR fun K' hK=> ?_
 simp;apply hK;clear K' hK;refine aR fun K' hK=> ?_
 simp;refine ak (jY v hs) rfl (by simp) ?_;simp;apply hK;clear K' hK;cases hv:fD v with
 | false=>
  refine aR fun K' hK=> ?_
  simp[hv];apply hK;clear K' hK;apply aF
  simp[au,aG,Post,aW,res1,bF,bC,aP,bg,bf,okT,okA,ok1,rowOf,Tryz.f66];simp[rightF,hv]
 | true=>
  refine aR fun K' hK=> ?_
  simp[hv];refine ak (vC name h1) rfl (by simp) ?_;simp;apply hK;clear K' hK;apply aF
  simp[au,aG,Post,aW,res1,bF,bC,aP,bg,bf,okT,okA,ok1,rowOf,Tryz.f66];simp[rightF,hv]
set_option maxRecDepth 100000
set_option maxHeartbeats 4000000
structure Key where
 par:Int
 name:Bs
 deriving DecidableEq,Inhabited
def kV (k:Key):Value:=.agg #[.int .i64 k.par,.string k.name]
def kC (k:Key):List AV:=[iV k.par,sV k.name]
@[simp] theorem NP (k:Key):zf (.agg (kC k))=some (kV k):=rfl
@[simp] theorem kC_one (k:Key):(kC k).all AV.one=true:=rfl
@[simp] theorem kC_all (k:Key):gU (kC k) 0 2=some (kC k):=rfl
@[simp] theorem kC_len (k:Key):(kC k).length=2:=rfl
@[simp] theorem kC_trees {P:Program} {G:Hp} (k:Key):bY P G (kC k)=some (kC k,G):=rfl
def JY (S:List Key):List (Value×AV):=S.map fun k=>(kV k,bV true)
noncomputable def UO:Array Field:=match Tryz.prog.underlying 157 with
 | some (.struct fs)=>fs
 | _=> #[]
@[simp] theorem QA:PE Tryz.prog 155=some (157,.struct UO,4):=by kernel_rfl
@[simp] theorem zv4:zvI Tryz.prog 4=some (bV false):=by kernel_rfl
@[simp] theorem MQ (k:Key):CX Tryz.prog (.struct UO) (kV k)=true:=by kernel_rfl
theorem U2 (a b:Key):eqV Tryz.prog 20 157 (kV a) (kV b)=some ((a.par==b.par)&&((a.name.toList==b.name.toList)&&true)):=by kernel_rfl
theorem Sv (a b:Key):Nz Tryz.prog 157 (.struct UO) (kV a) (kV b)=some (decide (a=b)):=by
 show eqV Tryz.prog 20 157 (kV a) (kV b)=_;rw[U2,beq_toList];congr 1;rw[Bool.eq_iff_iff];cases a;cases b;simp
theorem Tn (k:Key):∀(S:List Key) (i:Nat),∃r,qO Tryz.prog 157 (.struct UO) (kV k) (JY S) i=some r∧(k∈S→∃j,r=some (i+j)∧j<S.length)∧(k∉S→r=none)
 | [],i=>⟨none,rfl,by simp,by simp⟩
 | a::S,i=>by
  simp only[JY,List.map_cons,qO,Sv];by_cases h:k=a
  ·subst h;exact⟨some i,by simp,fun _=>⟨0,rfl,by simp⟩,fun h=>absurd (List.mem_cons_self ..) h⟩
  ·obtain⟨r,h1,h2,h3⟩:=Tn k S (i+1);refine⟨r,by simpa [h,JY]using h1,fun hm=> ?_,fun hm=>h3 (fun h=>hm (List.mem_cons_of_mem _ h))⟩;obtain⟨j,hj,hl⟩:=h2 (by simpa [h]using hm);exact⟨j+1,by rw[hj];congr 1;omega,by simp;omega⟩
theorem KF {G:Hp} {id:Nat} {S:List Key} (hG:G id=some (.map (JY S))) (k:Key):iP Tryz.prog G 155 (.mp id) (.agg (kC k)) false=some (bV (decide (k∈S))):=by
 obtain⟨r,h1,h2,h3⟩:=Tn k S 0;simp only[iP,QA,NP,hG,zv4,MQ,if_true,h1];by_cases hm:k∈S
 ·obtain⟨j,rfl,hl⟩:=h2 hm;have:(JY S)[j]? =some (kV S[j],bV true):=(by simp[JY,hl]);simp[this,hm]
 ·rw[h3 hm];simp[hm]
theorem Rk {G:Hp} {id:Nat} {S:List Key} (hG:G id=some (.map (JY S))) {k:Key} (hm:k∉S):fK Tryz.prog G 155 (.mp id) (.agg (kC k)) (bV true)=some (G.upd id (.map (JY (S++[k])))):=by
 obtain⟨r,h1,h2,h3⟩:=Tn k S 0;simp only[fK,QA,NP,hG,MQ,if_true,h1,h3 hm];simp[JY]
@[simp] theorem Vo:elI Tryz.prog 61=some (3,1,8,[.int .i64 0]):=by kernel_rfl
theorem Q7 (l:List Int):flat iC l=l.map fun n=>iV n:=by
 induction l with
 | nil=>rfl
 | cons a l ih=>rw[List.map_cons,←ih];rfl
theorem Tj (n:Nat):JO [.int .i64 0] (n*1)=flat iC (List.replicate n 0):=by
 rw[Q7];simp[JO,madeCells,Nat.mod_one,Function.comp_def,List.map_const,List.map_const'];done
def rootP:Pl:=⟨-1,⟨#[]⟩,⟨0,0,0,⟨#[]⟩⟩⟩
theorem N9:zf (.agg [iV (-1),sV ⟨#[]⟩,iV 0,iV 0,iV 0,sV ⟨#[]⟩])=some rootP.val:=rfl
def D8 (p:Pl):Key:=⟨p.par,p.name⟩
def dD (t:List Pl):Nat→List Int
 | 0=>List.replicate t.length 0
 | i+1=>(dD t i).set (i+1) (nth (dD t i) (nth t.tail i).par.toNat+1)
theorem yD (t:List Pl):∀i,(dD t i).length=t.length
 | 0=>by simp[dD]
 | i+1=>by simp[dD,yD t i]
def ku (t:List Pl) (i:Nat):List Key:=(t.tail.take i).map D8
theorem Np (t:List Pl):ku t 0=[]:=rfl
theorem keys_succ {t:List Pl} {i:Nat} (h:i<t.tail.length):ku t (i+1)=ku t i++[D8 (nth t.tail i)]:=by
 unfold ku;rw[List.take_add_one,List.getElem?_eq_getElem h,List.map_append,←bZ h];rfl
def xC (t:List Pl) (i:Nat):Bool:=
 let p:=nth t.tail i
 decide (0≤p.par)&&(decide (p.par≤i)&&(rightF p.name p.ver&&(decide (D8 p∉ku t i)&&decide (nth (dD t i) p.par.toNat+1≤12))))
def qo (t:List Pl):Bool:=(List.range t.tail.length).all (xC t)
def checkN (t:List Pl):Int:=if 200<t.length then 2 else if t=[]∨nth t 0≠rootP then 150 else if qo t then 0 else 150
def OKs (t:List Pl):Prop:=t.length≤1000000000∧∀p∈t,p.name.size≤4000000000∧p.ver.pre.size≤4000000000
theorem lg (t:List Pl) (ht:OKs t):CallsOK Tryz.prog 63 [rowT Pl.cells t] (iV (checkN t)) []:=by
 refine aN mixed Tryz.call63 Tryz.func63 rfl (by rw[Tryz.ntmps63];simp) ?_ rfl;rw[Tryz.ntmps63];have hl:=ht.1;refine aR fun K' hK=> ?_
 simp;apply hK;clear K' hK;apply aB;refine aR fun K' hK=> ?_
 simp;apply hK;clear K' hK;by_cases h2:(200:Int)<t.length
 ·skip;refine aU (by simp[h2]) ?_;apply aA;refine aR fun K' hK=> ?_
  simp;apply hK;clear K' hK;apply aJ
  simp[au,aG,Post,aW,res1,bF,bC,aP,bg,bf,okT,okA,ok1,rowOf,Tryz.f63];rw[checkN,if_pos (by omega)]
 ·skip;refine aV (by simp[h2]) ?_
  have h2':¬200<t.length:=(by omega);by_cases he:t=[]
  ·refine aA ?_;refine aR fun K' hK=> ?_
   simp[he];apply hK;clear K' hK;refine aX (by simp) ?_;apply aA;refine aR fun K' hK=> ?_
   simp;apply hK;clear K' hK;apply aJ
   simp[au,aG,Post,aW,res1,bF,bC,aP,bg,bf,okT,okA,ok1,rowOf,Tryz.f63];rw[checkN,if_neg h2',if_pos (.inl he)]
  ·have hpos:0<t.length:=List.length_pos_iff.2 he;have hpos':(0:Int)<t.length:=(by omega);have hpos1:1≤t.length:=hpos;have hz:¬(t.length:Int)=0:=(by omega);by_cases hr:nth t 0=rootP
   ·refine aA ?_;refine aR fun K' hK=> ?_
    simp[hz,hpos,hpos',hr,he,N9];apply hK;clear K' hK;refine aYk (by simp) ?_;apply aj
    refine ah ?_;refine aR fun K' hK=> ?_
    simp;apply hK;clear K' hK;have hmk:x9 Tryz.prog (Hp.upd (fun _=>none) 0 (.map [])) 1 61 (iV t.length) (iV t.length)=some (.row 1 t.length,(Hp.upd (fun _=>none) 0 (.map [])).upd 1 (.row 3 (flat iC (List.replicate t.length 0))),2):=by
     simp only[x9,Vo];rw[if_pos ⟨trivial,by omega,by omega,by omega⟩,Int.toNat_natCast,Tj]
    refine aR fun K' hK=> ?_
    simp[hmk];apply hK;clear K' hK;apply aA;refine aR fun K' hK=> ?_
    simp[hpos,hpos',hpos1,je];apply hK;clear K' hK;apply aB
    have htl:t.tail.length=t.length-1:=List.length_tail;have htk:t.tail.take (t.length-1)=t.tail:=List.take_of_length_le (by omega);refine bH (fun s G nx=>s 3=.mp 0∧s 4=.row 1 t.length∧s 28=rowT Pl.cells t.tail∧s 29=iV (t.length-1:Nat)∧2≤nx∧∃i:Nat,s 30=iV i∧i≤t.length-1∧G 0=some (.map (JY (ku t i)))∧G 1=some (.row 3 (flat iC (dD t i)))∧(List.range i).all (xC t)=true∧∀x∈dD t i,0≤x∧x≤12) (fun s _ _=>match s 30 with | .v (.int _ n)=>t.length-n.toNat | _=>0) ?_ ?_
    ·refine⟨by simp,by simp,by simp[htk],by simp,by omega,0,by simp,by omega,by simp[JY,Np],by simp[dD],by simp,fun x hx=>by simp[dD]at hx;omega⟩
    ·rintro s G nx-⟨s3,s4,s28,s29,hnx,i,s30,hi,g0,g1,hall,hD⟩;have hw:IntKind.i64.wrap (↑i+1)=((i+1:Nat):Int):=dh (by omega);refine aR fun K' hK=> ?_
     simp[s29,s30];apply hK;clear K' hK;refine aC fun A B hA hB=> ?_
     simp;refine⟨fun hi2=>hA ?_,fun hi2=>hB ?_⟩<;>clear hA hB A B<;>(try simp at hi2)<;>(try with_reducible refine aK ?_)
     ·skip;apply aB
      have hi3:i<t.length-1:=(by omega);have hi4:(i:Int)<(t.length-1:Nat):=(by omega);refine aR fun K' hK=> ?_
      simp[s28,s30,hi3,hi4];apply hK;clear K' hK;generalize hp:nth t.tail i=p;refine aR fun K' hK=> ?_
      simp;apply hK;clear K' hK;have n0:¬0=nx:=(by omega);have n1:¬1=nx:=(by omega);have n2:¬0=nx+1:=(by omega);have n3:¬1=nx+1:=(by omega);have n4:¬nx=0:=(by omega);refine fV (fun u H ny=>u 3=.mp 0∧u 4=.row 1 t.length∧u 28=rowT Pl.cells t.tail∧u 29=iV (t.length-1:Nat)∧u 30=iV i∧u 5=iV i∧u 6=.ptr nx 0∧u 7=.ptr (nx+1) 0∧2≤ny∧H 0=some (.map (JY (ku t i)))∧H 1=some (.row 3 (flat iC (dD t i)))∧H nx=some (.var 50 p.cells)∧H (nx+1)=some (.var 157 (kC (D8 p)))) ?_ ?_
      ·refine⟨by simp[s3],by simp[s4],by simp[s28],by simp[s29],by simp[s30],by simp,by simp,by simp,by omega,by simp[n0,n2,g0],by simp[n1,n3,n4,g1],by simp,?_⟩;simp[D8,kC]
      rintro u H ny ⟨u3,u4,u28,u29,u30,u5,u6,u7,hny,h0,h1,h6,h7⟩;have hpm:p∈t:=List.mem_of_mem_tail (hp▸bM (by omega));obtain⟨b1,b2⟩:=ht.2 p hpm;have hbad:xC t i=false→checkN t=150:=fun h=>by
       rw[checkN,if_neg h2',if_neg (by simp[he,hr]),qo,gY (by omega) h];rfl
      by_cases a1:p.par<0
      ·refine aA ?_;refine aR fun K' hK=> ?_
       simp[u6,h6,a1];apply hK;clear K' hK;refine aX (by simp) ?_;apply aA;refine aR fun K' hK=> ?_
       simp;apply hK;clear K' hK;apply aJ
       simp[au,aG,Post,aW,res1,bF,bC,aP,bg,bf,okT,okA,ok1,rowOf,Tryz.f63];exact(hbad (by simp[xC,hp];omega)).symm
      ·by_cases a2:(i:Int)<p.par
       ·refine aA ?_;refine aR fun K' hK=> ?_
        simp[u5,u6,h6,a1,a2];apply hK;clear K' hK;refine aX (by simp) ?_;apply aA;refine aR fun K' hK=> ?_
        simp;apply hK;clear K' hK;apply aJ
        simp[au,aG,Post,aW,res1,bF,bC,aP,bg,bf,okT,okA,ok1,rowOf,Tryz.f63];exact(hbad (by simp[xC,hp];omega)).symm
       ·cases hrt:rightF p.name p.ver with
        | false=>
         apply aA;refine aR fun K' hK=> ?_
         simp[u5,u6,h6,a1,a2];refine ak (rO p.name p.ver b1 b2) rfl (by simp) ?_;simp[hrt];apply hK;clear K' hK;refine aX (by simp) ?_;apply aA;refine aR fun K' hK=> ?_
         simp;apply hK;clear K' hK;apply aJ
         simp[au,aG,Post,aW,res1,bF,bC,aP,bg,bf,okT,okA,ok1,rowOf,Tryz.f63];exact(hbad (by simp[xC,hp,hrt])).symm
        | true=>
         apply aA;refine aR fun K' hK=> ?_
         simp[u5,u6,h6,a1,a2];refine ak (rO p.name p.ver b1 b2) rfl (by simp) ?_;by_cases a4:D8 p∈ku t i
         ·have a5:decide (D8 p∈ku t i)=true:=decide_eq_true a4;have lk:=KF h0 (D8 p);rw[a5]at lk;simp[hrt,u3,u7,h7,lk];apply hK;clear K' hK;refine aX (by simp) ?_;apply aA;refine aR fun K' hK=> ?_
          simp;apply hK;clear K' hK;apply aJ
          simp[au,aG,Post,aW,res1,bF,bC,aP,bg,bf,okT,okA,ok1,rowOf,Tryz.f63];exact(hbad (by simp only[xC,hp,a4,not_true,decide_false,Bool.false_and,Bool.and_false])).symm
         ·have a5:decide (D8 p∈ku t i)=false:=decide_eq_false a4;have lk:=KF h0 (D8 p);rw[a5]at lk;simp[hrt,u3,u7,h7,lk];apply hK;clear K' hK;refine aYk (by simp) ?_
          have hS:ku t i++[D8 p]=ku t (i+1):=(by rw[keys_succ (by omega),hp]);have up:=Rk h0 a4;rw[hS]at up;refine aR fun K' hK=> ?_
          simp[u3,u7,h7,up];apply hK;clear K' hK;have m1:¬nx=0:=(by omega);have j1:(0:Int)≤p.par:=(by omega);have j2:p.par<(t.length:Int):=(by omega);have j3:p.par.toNat<(dD t i).length:=(by rw[yD];omega);have j4:(0:Int)≤(i:Int)+1:=(by omega);have j5:(i:Int)+1<(t.length:Int):=(by omega);have j6:i+1<(dD t i).length:=(by rw[yD];omega);have hd:=hD _ (bM j3);generalize hdd:nth (dD t i) p.par.toNat=d at hd;have hwd:IntKind.i64.wrap (d+1)=d+1:=wrap64 (by omega) (by omega);have hput:Aa (flat iC (dD t i)) 1 (i+1) 0 [iV (d+1)]=flat iC (dD t (i+1)):=by
           rw[dD,hp,hdd];exact Ce j6 (d+1)
          refine aR fun K' hK=> ?_
          simp[m1,u4,u5,u6,h6,h1,hw,j1,j2,j3,j4,j5,j6,hdd,hwd,hput];apply hK;clear K' hK;have k1:i+1<(dD t (i+1)).length:=(by rw[yD];omega);have k2:nth (dD t (i+1)) (i+1)=d+1:=by
           rw[bZ k1];simp only[dD,List.getElem_set_self,hp,hdd]
          by_cases k3:(12:Int)<d+1
          ·skip;refine aR fun K' hK=> ?_
           simp[u4,u5,hw,j4,j5,k1,k2,k3];apply hK;clear K' hK;refine aU (by simp) ?_;apply aA;refine aR fun K' hK=> ?_
           simp;apply hK;clear K' hK;apply aJ
           simp[au,aG,Post,aW,res1,bF,bC,aP,bg,bf,okT,okA,ok1,rowOf,Tryz.f63];exact(hbad (by simp only[xC,hp,hdd,show¬d+1≤12 by omega,decide_false,Bool.and_false])).symm
          ·skip;refine aR fun K' hK=> ?_
           simp[u4,u5,hw,j4,j5,k1,k2,k3];apply hK;clear K' hK;refine aVk (by simp) ?_;apply aj
           refine ah ?_;refine aS fun K' hK=> ?_
           simp[u30,hw];apply hK;clear K' hK;refine aj (ay ?_ ?_)
           ·refine⟨by simp[u3],by simp[u4],by simp[u28],by simp[u29],hny,i+1,by simp[hw],by omega,by simp[m1],by simp,?_,?_⟩
            ·rw[jJ,hall];simp[xC,hp,hdd,hrt,a4];omega
            ·intro x hx;rw[dD,hp,hdd]at hx;rcases List.mem_or_eq_of_mem_set hx with hx | rfl
             ·exact hD x hx
             ·omega
           ·simp[s30,hw];omega
     ·skip;apply bG
      refine aI (aH ?_);refine aR fun K' hK=> ?_
      simp;apply hK;clear K' hK;apply aF
      simp[au,aG,Post,aW,res1,bF,bC,aP,bg,bf,okT,okA,ok1,rowOf,Tryz.f63];have:i=t.tail.length:=(by omega);rw[this]at hall;rw[checkN,if_neg h2',if_neg (by simp[he,hr]),qo,hall];rfl
   ·refine aA ?_;refine aR fun K' hK=> ?_
    simp[hz,hpos,hpos',hr,he,N9];apply hK;clear K' hK;refine aX (by simp) ?_;apply aA;refine aR fun K' hK=> ?_
    simp;apply hK;clear K' hK;apply aJ
    simp[au,aG,Post,aW,res1,bF,bC,aP,bg,bf,okT,okA,ok1,rowOf,Tryz.f63];rw[checkN,if_neg h2',if_pos (.inr hr)]
set_option maxRecDepth 100000
set_option maxHeartbeats 4000000
def gG (t:List Pl) (i:Int):Bool:=decide (checkN t=0)&&(decide (0≤i)&&decide (i<t.length))
theorem y9 (t:List Pl) (ht:OKs t) (i:Int):CallsOK Tryz.prog 71 [rowT Pl.cells t,iV i] (bV (gG t i)) []:=by
 refine aN mixed Tryz.call71 Tryz.func71 rfl (by rw[Tryz.ntmps71];simp) ?_ rfl;rw[Tryz.ntmps71];refine aR fun K' hK=> ?_
 simp;apply hK;clear K' hK;refine aR fun K' hK=> ?_
 simp;refine ak (lg t ht) rfl (by simp) ?_;by_cases h1:checkN t=0
 ·by_cases h2:0≤i
  ·simp[h1,h2];apply hK;clear K' hK;apply aF
   simp[au,aG,Post,aW,res1,bF,bC,aP,bg,bf,okT,okA,ok1,rowOf,Tryz.f71];simp[gG,h1,h2]
  ·simp[h1,h2];apply hK;clear K' hK;apply aF
   simp[au,aG,Post,aW,res1,bF,bC,aP,bg,bf,okT,okA,ok1,rowOf,Tryz.f71];simp[gG,h1,h2]
 ·simp[h1];apply hK;clear K' hK;apply aF
  simp[au,aG,Post,aW,res1,bF,bC,aP,bg,bf,okT,okA,ok1,rowOf,Tryz.f71];simp[gG,h1]
def parN (t:List Pl) (i:Nat):Int:=(nth t i).par
def Dn (t:List Pl):Prop:=∀i,i<t.length→parN t i<i
theorem nK {t:List Pl} (h:checkN t=0):t.length≤200∧t≠[]∧nth t 0=rootP∧∀i,i+1<t.length→xC t i=true:=by
 unfold checkN at h;by_cases h1:200<t.length
 ·rw[if_pos h1]at h;cases h
 ·rw[if_neg h1]at h;by_cases h2:t=[]∨nth t 0≠rootP
  ·rw[if_pos h2]at h;cases h
  ·rw[if_neg h2]at h;have h3:¬t=[]∧nth t 0=rootP:=(by simpa using h2);by_cases h4:qo t=true
   ·refine⟨by omega,h3.1,h3.2,fun i hi=> ?_⟩;unfold qo at h4;rw[List.all_eq_true]at h4;exact h4 i (List.mem_range.2 (by rw[List.length_tail];omega))
   ·rw[if_neg h4]at h;cases h
theorem qG {t:List Pl} {i:Nat} (h:i+1<t.length):nth t.tail i=nth t (i+1):=by
 rw[bZ h,bZ (by rw[List.length_tail];omega)];simp
theorem GK {t:List Pl} {i:Nat} (h:i+1<t.length) (ho:xC t i=true):0≤parN t (i+1)∧parN t (i+1)≤i:=by
 simp only[xC,Bool.and_eq_true,decide_eq_true_eq,qG h]at ho;exact⟨ho.1,ho.2.1⟩
theorem Hq {t:List Pl} (h:checkN t=0):parN t 0= -1∧∀i,i+1<t.length→0≤parN t (i+1)∧parN t (i+1)≤i:=by
 obtain⟨_,_,h3,h4⟩:=nK h;exact⟨by rw[parN,h3];rfl,fun i hi=>GK hi (h4 i hi)⟩
theorem EW {t:List Pl} (h:checkN t=0):Dn t:=by
 obtain⟨h1,h2⟩:=Hq h;intro i hi;cases i with
 | zero=>rw[h1];omega
 | succ i=>have:=h2 i hi;omega
def upF (t:List Pl):Nat→Nat→List Nat
 | 0,_=>[]
 | k+1,i=>i::(if parN t i<0 then[]else upF t k (parN t i).toNat)
def upN (t:List Pl) (i:Nat):List Nat:=upF t (i+1) i
theorem MS {t:List Pl} (hd:Dn t):∀(m k i:Nat),i<k→i<m→i<t.length→upF t k i=upN t i
 | 0,k,i,_,h,_=>by omega
 | m+1,0,i,h,_,_=>by omega
 | m+1,k+1,i,hk,hm,hi=>by
  have:=hd i hi;unfold upN;rw[upF,upF];by_cases hp:parN t i<0
  ·rw[if_pos hp,if_pos hp]
  ·rw[if_neg hp,if_neg hp,MS hd m k _ (by omega) (by omega) (by omega),MS hd m i _ (by omega) (by omega) (by omega)]
theorem iJ {t:List Pl} (hd:Dn t) {i:Nat} (hi:i<t.length):upN t i=i::(if parN t i<0 then[]else upN t (parN t i).toNat):=by
 have:=hd i hi
 conv=>lhs;unfold upN
 rw[upF];by_cases hp:parN t i<0
 ·rw[if_pos hp,if_pos hp]
 ·rw[if_neg hp,if_neg hp,MS hd (i+1) i _ (by omega) (by omega) (by omega)]
theorem U1 {t:List Pl} (hd:Dn t) (hl:t.length≤1000000000) {L:Lp} {K:Exit→KS} {c:Code} (hc:Tryz.f161.body=some c) {id b1 b2:Nat} (J:Nat→Hp→Nat→Prop)
  (hJ:∀i G nx,J i G nx→i<t.length∧G b1=some (.var 3 [iV i])∧G b2=some (.var 29 [rowT Pl.cells t])∧G id=some (L.o .ready none))
  (hy:∀i G nx,J i G nx→DT Tryz.prog id [iV i] (fun v G' nx'=>(v=bV true∧G' b1=some (.var 3 [iV i])∧G' b2=some (.var 29 [rowT Pl.cells t])∧
    (0≤parN t i→J (parN t i).toNat (G'.upd b1 (.var 3 [iV (parN t i)])) nx')∧(parN t i<0→tJ L id K .normal L.s (G'.upd b1 (.var 3 [iV (parN t i)])) nx'))∨
    (v=bV false∧tJ L id K .ret L.s G' nx')) G nx)
  {i:Nat} {G:Hp} {nx:Nat} (h:J i G nx):AW Tryz.prog 15 c (tJ L id K) (Cj [.yl id,.ptr b1 0,.ptr b2 0]) G nx:=by
 cases hc;refine dL (aB ?_)
 refine bH (fun s G nx=>s 0=.yl id∧s 1=.ptr b1 0∧s 2=.ptr b2 0∧∃n:Int,G b1=some (.var 3 [iV n])∧((∃i:Nat,n=i∧J i G nx)∨(n<0∧tJ L id K .normal L.s G nx))) (fun _ G _=>match G b1 with | some (.var _ [.v (.int _ n)])=>(n+1).toNat | _=>0) ?_ ?_
 ·exact⟨rfl,rfl,rfl,i,(hJ _ _ _ h).2.1,.inl ⟨i,rfl,h⟩⟩
 ·rintro s G nx-⟨s0,s1,s2,n,g1,hn⟩;rcases hn with⟨i,rfl,hi⟩ | ⟨hn,hk⟩
  ·obtain⟨hlt,_,g2,gid⟩:=hJ _ _ _ hi;have hp:=hd i hlt;apply aA;refine aR fun K' hK=> ?_
   simp[s1,g1];apply hK;clear K' hK;refine aXk (by simp) ?_;apply aB;refine aR fun K' hK=> ?_
   simp[s0,s1,g1];refine⟨⟨_,_,_,_,_,_,_,gid⟩,(hy _ _ _ hi).mono ?_⟩;rintro v G' nx' (⟨rfl,h1,h2,h3,h4⟩ | ⟨rfl,h1⟩)
   ·simp;apply hK;clear K' hK;refine aVk (by simp) ?_;apply aj
    refine ah ?_;have hlt':(i:Int)<t.length:=(by omega);have hpi:(nth t i).par=parN t i:=rfl;refine aS fun K' hK=> ?_
    simp[s1,s2,h1,h2,hlt,hlt',hpi];apply hK;clear K' hK;refine aj (ay ?_ ?_)
    ·refine⟨by simp[s0],by simp[s1],by simp[s2],parN t i,by simp,?_⟩;by_cases hneg:parN t i<0
     ·exact .inr ⟨hneg,h4 hneg⟩
     ·exact .inl ⟨(parN t i).toNat,by omega,h3 (by omega)⟩
    ·simp[g1];omega
   ·simp;apply hK;clear K' hK;refine aU (by simp) ?_
    refine aJ (dP (ng (dP ?_)));exact⟨.inr rfl,h1.2⟩
  ·refine aA ?_;refine aR fun K' hK=> ?_
   simp[s1,g1];apply hK;clear K' hK;have hn':¬0≤n:=(by omega);refine aY (by simp[hn']) ?_;apply bG
   refine aI (aH ?_);apply aj;exact⟨.inl rfl,hk.2⟩
set_option maxRecDepth 100000
set_option maxHeartbeats 4000000
theorem LC {t:List Pl} :∀(k i:Nat),(upF t k i).length≤k
 | 0,i=>by simp[upF]
 | k+1,i=>by
  rw[upF];split
  ·simp
  ·have:=LC (t:=t) k (parN t i).toNat;simp;omega
theorem QC {t:List Pl} (i:Nat):(upN t i).length≤i+1:=LC _ _
def jw (t:List Pl) (i:Nat):Int:=(upN t i).length-1
theorem EX (t:List Pl) (hd:Dn t) (hl:t.length≤1000000000) (i:Nat) (hi:i<t.length):CallsOK Tryz.prog 68 [rowT Pl.cells t,iV i] (iV (jw t i)) []:=by
 refine aN mixed Tryz.call68 Tryz.func68 rfl (by rw[Tryz.ntmps68];simp) ?_ rfl;rw[Tryz.ntmps68];refine aR fun K' hK=> ?_
 simp;apply hK;clear K' hK;refine aR fun K' hK=> ?_
 simp;apply hK;clear K' hK;apply aA;refine aR fun K' hK=> ?_
 simp;refine dH (zY mixed Tryz.call118 Tryz.func118 rfl (by rw[Tryz.ntmps118];simp) fun hf=> ?_);rw[Tryz.ntmps118];refine aR fun K' hK=> ?_
 simp;apply hK;clear K' hK;refine aR fun K' hK=> ?_
 simp;apply hK;clear K' hK;apply aF
 simp[au,aG,Post,aW,res1,bF,bC,aP,bg,bf,okT,okA,ok1,rowOf,Tryz.f118];apply hK;clear K' hK;refine fV (fun s G nx=>s 5=.ptr 0 0∧s 8=.fn 161 [.ptr 2 0,.ptr 1 0]∧nx=3∧G 0=some (.var 3 [iV (-1)])∧G 1=some (.var 29 [rowT Pl.cells t])∧G 2=some (.var 3 [iV i])) ?_ ?_
 ·simp;rfl
 rintro s G nx ⟨s5,s8,rfl,g0,g1,g2⟩;apply aB
 refine jQ (f:=161) (fn:=Tryz.f161) mixed s8 Tryz.call161 Tryz.func161 rfl (by rw[Tryz.ntmps161];simp) rfl ?_;rw[Tryz.ntmps161];generalize hL:(Lp.mk s 13 _ _ _)=L;have hLs:L.s=s:=(by subst hL;rfl);have htot:=QC (t:=t) i;refine U1 hd hl rfl (fun j G nx=>∃k:Nat,G 0=some (.var 3 [iV ((k:Int)-1)])∧(upN t j).length+k=(upN t i).length∧j<t.length∧G 2=some (.var 3 [iV j])∧G 1=some (.var 29 [rowT Pl.cells t])∧G 3=some (L.o .ready none)) ?_ ?_ ⟨0,by simp[g0],by simp,hi,by simp[g2],by simp[g1],by simp⟩
 ·rintro j G nx ⟨k,h0,h1,h2,h3,h4,h5⟩;exact⟨h2,h3,h4,h5⟩
 ·rintro j G nx ⟨k,h0,h1,h2,h3,h4,h5⟩;have hst:=iJ hd h2;have hw:IntKind.i64.wrap (k:Int)=k:=wrap64 (by omega) (by omega);have hround:∀K:AV→Hp→Nat→Prop,K (bV true) (((G.upd 3 (L.o .busy none)).upd 0 (.var 3 [iV k])).upd 3 (L.o .ready none)) nx→DT Tryz.prog 3 [iV j] K G nx:=by
   subst hL;intro K hK0;refine Oi mixed h5 rfl (by simp) rfl rfl fun hf=> ?_;apply aj;refine⟨rfl,h5,?_⟩;dsimp only;generalize (Lp.mk s 13 _ _ _)=L at h5 hK0⊢;refine dL (aB ?_);refine aS fun K' hK=> ?_
   simp[s5,h0,hw];apply hK;clear K' hK;apply aj
   refine ah ?_;apply aj;refine dB (by simp) ?_;exact hK0
  refine hround _ (.inl ⟨rfl,by simp[h3],by simp[h4],fun hp=> ?_,fun hp=> ?_⟩)
  ·rw[if_neg (by omega)]at hst;rw[hst]at h1;have:=hd j h2;exact⟨k+1,by simp,by simp at h1;omega,by omega,by simp;omega,by simp[h4],by simp⟩
  ·rw[if_pos hp]at hst;rw[hst]at h1;refine iw (.inl rfl) (by simp) ?_;rw[hLs];refine ah ?_;refine aR fun K' hK=> ?_
   simp[s5];apply hK;clear K' hK;apply aF
   simp[au,aG,Post,aW,res1,bF,bC,aP,bg,bf,okT,okA,ok1,rowOf,Tryz.f68];simp[jw]at h1⊢;omega
def fU (t:List Pl) (i:Nat) (x:Int):Bool:=(upN t i).any fun j=>decide ((j:Int)=x)
theorem Jj (t:List Pl) (hd:Dn t) (hl:t.length≤1000000000) (i:Nat) (hi:i<t.length) (x:Int):CallsOK Tryz.prog 72 [rowT Pl.cells t,iV i,iV x] (bV (fU t i x)) []:=by
 refine aN mixed Tryz.call72 Tryz.func72 rfl (by rw[Tryz.ntmps72];simp) ?_ rfl;rw[Tryz.ntmps72];refine aR fun K' hK=> ?_
 simp;apply hK;clear K' hK;apply aA;refine aR fun K' hK=> ?_
 simp;refine dH (zY mixed Tryz.call118 Tryz.func118 rfl (by rw[Tryz.ntmps118];simp) fun hf=> ?_);rw[Tryz.ntmps118];refine aR fun K' hK=> ?_
 simp;apply hK;clear K' hK;refine aR fun K' hK=> ?_
 simp;apply hK;clear K' hK;apply aF
 simp[au,aG,Post,aW,res1,bF,bC,aP,bg,bf,okT,okA,ok1,rowOf,Tryz.f118];apply hK;clear K' hK;refine fV (fun s G nx=>s 5=.ptr 0 0∧s 6=.ptr 1 0∧s 10=.fn 161 [.ptr 3 0,.ptr 2 0]∧nx=4∧G 0=some (.var 3 [iV x])∧G 1=some (.var 4 [bV false])∧G 2=some (.var 29 [rowT Pl.cells t])∧G 3=some (.var 3 [iV i])) ?_ ?_
 ·simp;rfl
 rintro s G nx ⟨s5,s6,s10,rfl,g0,g1,g2,g3⟩;apply aB
 refine jQ (f:=161) (fn:=Tryz.f161) mixed s10 Tryz.call161 Tryz.func161 rfl (by rw[Tryz.ntmps161];simp) rfl ?_;rw[Tryz.ntmps161];generalize hL:(Lp.mk s 15 _ _ _)=L;have hLs:L.s=s:=(by subst hL;rfl);refine U1 hd hl rfl (fun j G nx=>fU t i x=(upN t j).any (fun j=>decide ((j:Int)=x))∧G 0=some (.var 3 [iV x])∧G 1=some (.var 4 [bV false])∧j<t.length∧G 3=some (.var 3 [iV j])∧G 2=some (.var 29 [rowT Pl.cells t])∧G 4=some (L.o .ready none)) ?_ ?_ ⟨rfl,by simp[g0],by simp[g1],hi,by simp[g3],by simp[g2],by simp⟩
 ·rintro j G nx ⟨h1,h0,h6,h2,h3,h4,h5⟩;exact⟨h2,h3,h4,h5⟩
 ·rintro j G nx ⟨h1,h0,h6,h2,h3,h4,h5⟩;have hst:=iJ hd h2;rw[hst,List.any_cons]at h1;have hround:∀K:AV→Hp→Nat→Prop,(¬(j:Int)=x→K (bV true) ((G.upd 4 (L.o .busy none)).upd 4 (L.o .ready none)) nx)→((j:Int)=x→K (bV false) (((G.upd 4 (L.o .busy none)).upd 1 (.var 4 [bV true])).upd 4 (L.o .done (some .ret))) nx)→DT Tryz.prog 4 [iV j] K G nx:=by
   subst hL;intro K k1 k2;refine Oi mixed h5 rfl (by simp) rfl rfl fun hf=> ?_;refine aS fun K' hK=> ?_
   simp;apply hK;clear K' hK;refine⟨rfl,h5,?_⟩;dsimp only;generalize (Lp.mk s 15 _ _ _)=L at h5 k1 k2⊢;refine dL (aB ?_);refine aR fun K' hK=> ?_
   simp[s5,h0];apply hK;clear K' hK;by_cases hx:(j:Int)=x
   ·skip;refine aU (by simp[hx]) ?_;apply aA;refine aR fun K' hK=> ?_
    simp[s6,h6];apply hK;clear K' hK;apply aJ;refine dP ?_;refine oz (by simp) ?_;exact k2 hx
   ·skip;refine aVk (by simp[hx]) ?_;apply aj
    refine ah ?_;apply aj;refine dB (by simp) ?_;exact k1 hx
  refine hround _ (fun hx=> .inl ⟨rfl,by simp[h3],by simp[h4],fun hp=> ?_,fun hp=> ?_⟩) (fun hx=> .inr ⟨rfl,?_⟩)
  ·rw[if_neg (by omega)]at h1;have:=hd j h2;simp only[hx,decide_false,Bool.false_or]at h1;exact⟨h1,by simp[h0],by simp[h6],by omega,by simp;omega,by simp[h4],by simp⟩
  ·rw[if_pos hp]at h1;refine iw (.inl rfl) (by simp) ?_;rw[hLs];refine ah ?_;refine aR fun K' hK=> ?_
   simp[s6,h6];apply hK;clear K' hK;apply aF
   simp[au,aG,Post,aW,res1,bF,bC,aP,bg,bf,okT,okA,ok1,rowOf,Tryz.f72,s6];rw[h1];simp[hx]
  ·refine oh (.inr rfl) (by simp) ?_;rw[hLs];refine dP ?_;simp[Post,aW,res1,bF,bC,aP,bg,bf,okT,okA,ok1,rowOf,Tryz.f72,s6];rw[h1];simp[hx]
set_option maxRecDepth 100000
set_option maxHeartbeats 4000000
def MZ (t:List Pl) (name:Bs):List Nat→Int
 | []=> -1
 | j::r=>match chF t j name with
  | some k=>k
  | none=>MZ t name r
def dF (t:List Pl) (i:Int) (name:Bs):Int:=if gG t i then MZ t name (upN t i.toNat)else-1
theorem nX {t:List Pl} {i:Int} (h:gG t i=true):checkN t=0∧0≤i∧i<t.length:=by
 simpa [gG]using h
theorem jM (t:List Pl) (ht:OKs t) (i:Int) (name:Bs):CallsOK Tryz.prog 70 [rowT Pl.cells t,iV i,sV name] (iV (dF t i name)) []:=by
 refine aN mixed Tryz.call70 Tryz.func70 rfl (by rw[Tryz.ntmps70];simp) ?_ rfl;rw[Tryz.ntmps70];refine aR fun K' hK=> ?_
 simp;apply hK;clear K' hK;refine wC ?_;apply aA;refine aR fun K' hK=> ?_
 simp;refine ak (y9 t ht i) rfl (by simp;rfl) ?_;cases hh:gG t i with
 | false=>
  simp;apply hK;clear K' hK;refine aX (by simp) ?_;apply aA;refine aR fun K' hK=> ?_
  simp;apply hK;clear K' hK;apply aJ;simp[lH,Post,aW,res1,bF,bC,aP,bg,bf,okT,okA,ok1,rowOf,Tryz.f70];simp[dF,hh]
 | true=>
  obtain⟨hch,hi0,hi1⟩:=nX hh;obtain⟨n,rfl⟩:∃n:Nat,i=n:=⟨i.toNat,by omega⟩;have hn:n<t.length:=(by omega);have hd:=EW hch;have hl:=ht.1;simp;apply hK;clear K' hK;refine aYk (by simp) ?_;refine aR fun K' hK=> ?_
  simp;apply hK;clear K' hK;refine Ae ?_;apply aA;refine aR fun K' hK=> ?_
  simp;refine dH (zY mixed Tryz.call118 Tryz.func118 rfl (by rw[Tryz.ntmps118];simp) fun hf=> ?_);rw[Tryz.ntmps118];refine aR fun K' hK=> ?_
  simp;apply hK;clear K' hK;refine aR fun K' hK=> ?_
  simp;apply hK;clear K' hK;apply aF
  simp[au,aG,Post,aW,res1,bF,bC,aP,bg,bf,okT,okA,ok1,rowOf,Tryz.f118];apply hK;clear K' hK;refine fV (fun s G nx=>s 3=.ptr 0 0∧s 5=.ptr 1 0∧s 7=.ptr 2 0∧s 17=.fn 161 [.ptr 4 0,.ptr 3 0]∧nx=5∧G 0=some (.var 29 [rowT Pl.cells t])∧G 1=some (.var 9 [sV name])∧G 2=some (.var 3 [iV (-1)])∧G 3=some (.var 29 [rowT Pl.cells t])∧G 4=some (.var 3 [iV n])) ?_ ?_
  ·simp;exact⟨rfl,rfl⟩
  rintro s G nx ⟨s3,s5,s7,s17,rfl,g0,g1,g2,g3,g4⟩;apply aB
  refine jQ (f:=161) (fn:=Tryz.f161) mixed s17 Tryz.call161 Tryz.func161 rfl (by rw[Tryz.ntmps161];simp) rfl ?_;rw[Tryz.ntmps161];generalize hL:(Lp.mk s 41 _ _ _)=L;have hLs:L.s=s:=(by subst hL;rfl);refine U1 hd hl rfl (fun j G nx=>6≤nx∧MZ t name (upN t n)=MZ t name (upN t j)∧G 0=some (.var 29 [rowT Pl.cells t])∧G 1=some (.var 9 [sV name])∧G 2=some (.var 3 [iV (-1)])∧j<t.length∧G 4=some (.var 3 [iV j])∧G 3=some (.var 29 [rowT Pl.cells t])∧G 5=some (L.o .ready none)) ?_ ?_ ⟨by omega,rfl,by simp[g0],by simp[g1],by simp[g2],hn,by simp[g4],by simp[g3],by simp⟩
  ·rintro j G nx ⟨hnx,h1,h0,h6,h7,h2,h3,h4,h5⟩;exact⟨h2,h3,h4,h5⟩
  ·rintro j G nx ⟨hnx,h1,h0,h6,h7,h2,h3,h4,h5⟩;have hst:=iJ hd h2;rw[hst,MZ]at h1;have hround:∀K:AV→Hp→Nat→Prop,(chF t j name=none→∀G' nx',nx≤nx'→(∀i,i<5→G' i=G i)→G' 5=some (L.o .ready none)→K (bV true) G' nx')→
     (∀k:Nat,chF t j name=some k→∀G' nx',nx≤nx'→G' 2=some (.var 3 [iV k])→G' 5=some (L.o .done (some (.exit 0)))→K (bV false) G' nx')→DT Tryz.prog 5 [iV j] K G nx:=by
    subst hL;intro K k1 k2;refine Oi mixed h5 rfl (by simp) rfl rfl fun hf=> ?_;refine aS fun K' hK=> ?_
    simp;apply hK;clear K' hK;refine⟨rfl,h5,?_⟩;dsimp only;generalize (Lp.mk s 41 _ _ _)=L at h5 k1 k2⊢;refine dL (aB ?_)
    have hpos:1≤t.length:=(by omega);have htl:t.tail.length=t.length-1:=List.length_tail;have htk:t.tail.take (t.length-1)=t.tail:=List.take_of_length_le (by omega);refine aR fun K' hK=> ?_
    simp[s3,h0,hpos,je,htk];apply hK;clear K' hK;refine dL (aB ?_)
    refine bH (fun s' G' nx'=>s' 5=.ptr 1 0∧s' 7=.ptr 2 0∧s' 8=iV j∧s' 20=rowT Pl.cells t.tail∧s' 21=iV (t.length-1:Nat)∧nx≤nx'∧(∀i,i<5→G' i=G i)∧G' 5=some (L.o .busy none)∧∃m:Nat,s' 22=iV m∧m≤t.length-1∧∀i,i≤m→chP j name (nth t i)=false) (fun s _ _=>match s 22 with | .v (.int _ n)=>t.length-n.toNat | _=>0) ?_ ?_
    ·exact⟨by simp[s5],by simp[s7],by simp,by simp,by simp,by omega,fun i hi=>by simp;omega,by simp,0,by simp,by omega,fun i hi=>by
      have:i=0:=(by omega);subst this;have:parN t 0= -1:=(Hq hch).1;have h9:¬(nth t 0).par=(j:Int):=(by unfold parN at this;omega);simp[chP,h9]⟩
    ·rintro s' G' nx'-⟨u5,u7,u8,u20,u21,hnx',hag,hg5,m,u22,hm,hno⟩;have hw:IntKind.i64.wrap (↑m+1)=((m+1:Nat):Int):=dh (by omega);refine aR fun K' hK=> ?_
     simp[u21,u22];apply hK;clear K' hK;refine aC fun A B hA hB=> ?_
     simp;refine⟨fun hi2=>hA ?_,fun hi2=>hB ?_⟩<;>clear hA hB A B<;>(try simp at hi2)<;>(try with_reducible refine aK ?_)
     ·skip;apply aB
      have hi3:m<t.length-1:=(by omega);have hi4:(m:Int)<(t.length-1:Nat):=(by omega);refine aR fun K' hK=> ?_
      simp[u20,u22,hi3,hi4];apply hK;clear K' hK;have hp1:nth t.tail m=nth t (m+1):=qG (by omega);rw[hp1];generalize hp:nth t (m+1)=p;have q0:¬0=nx':=(by omega);have q1:¬1=nx':=(by omega);have q2:¬2=nx':=(by omega);have q3:¬3=nx':=(by omega);have q4:¬4=nx':=(by omega);have q5:¬5=nx':=(by omega);have e0:=hag 0 (by omega);have e1:=hag 1 (by omega);have e2:=hag 2 (by omega);have e3:=hag 3 (by omega);have e4:=hag 4 (by omega);rw[h6]at e1;rw[h7]at e2;have hag':∀i,i<5→(G'.upd nx' (.var 50 p.cells)) i=G i:=fun i hi=>(by rw[Hp.upd_ne _ _ (by omega)];exact hag i hi);refine fV (fun v H ny=>v 5=.ptr 1 0∧v 7=.ptr 2 0∧v 8=iV j∧v 20=rowT Pl.cells t.tail∧v 21=iV (t.length-1:Nat)∧v 22=iV m∧v 9=iV m∧v 10=.ptr nx' 0∧nx≤ny∧(∀i,i<5→H i=G i)∧H 1=some (.var 9 [sV name])∧H 2=some (.var 3 [iV (-1)])∧H 5=some (L.o .busy none)∧H nx'=some (.var 50 p.cells)) ?_ ?_
      ·refine⟨by simp[u5],by simp[u7],by simp[u8],by simp[u20],by simp[u21],by simp[u22],by simp,by simp,by omega,?_,by simp[q1,e1],by simp[q2,e2],by simp[q5,hg5],by simp⟩;intro i hi;have:¬i=nx':=(by omega);simp[this,hag i hi]
      rintro v H ny ⟨v5,v7,v8,v20,v21,v22,v9,v10,hny,hagH,H1,H2,H5,Hx⟩;by_cases c1:p.par=j
      ·by_cases c2:p.name=name
       ·skip;refine aR fun K' hK=> ?_
        simp[v5,v8,v10,Hx,H1,c1,c2];apply hK;clear K' hK;refine aU (by simp) ?_;apply aA;refine aR fun K' hK=> ?_
        simp[v9,v7,hw,H2];apply hK;clear K' hK;have hf:chF t j name=some (m+1):=by
         unfold chF;rw[List.findIdx?_eq_some_iff_getElem];refine⟨by omega,by rw[←bZ (by omega),hp];simp[chP,c1,c2],fun i hi=> ?_⟩;rw[←bZ (by omega)];simpa using hno i (by omega)
        refine bG (eF (by decide) (aI (eF (by decide) (eF (by decide) ?_))));refine F7 (by simp[H5]) ?_;exact k2 _ hf _ _ hny (by simp) (by simp)
       ·skip;refine aR fun K' hK=> ?_
        simp[v5,v8,v10,Hx,H1,c1,c2];apply hK;clear K' hK;refine aVk (by simp) ?_;apply aj
        refine ah ?_;refine aS fun K' hK=> ?_
        simp[v22,hw];apply hK;clear K' hK;refine aj (ay ?_ ?_)
        ·refine⟨by simp[v5],by simp[v7],by simp[v8],by simp[v20],by simp[v21],hny,hagH,H5,m+1,by simp[hw],by omega,fun i hi=> ?_⟩;rcases Nat.lt_or_ge m i with h | h
         ·have:i=m+1:=(by omega);subst this;rw[hp];simp[chP,c2]
         ·exact hno i h
        ·simp[u22,hw];omega
      ·skip;refine aR fun K' hK=> ?_
       simp[v5,v8,v10,Hx,H1,c1];apply hK;clear K' hK;refine aVk (by simp) ?_;apply aj
       refine ah ?_;refine aS fun K' hK=> ?_
       simp[v22,hw];apply hK;clear K' hK;refine aj (ay ?_ ?_)
       ·refine⟨by simp[v5],by simp[v7],by simp[v8],by simp[v20],by simp[v21],hny,hagH,H5,m+1,by simp[hw],by omega,fun i hi=> ?_⟩;rcases Nat.lt_or_ge m i with h | h
        ·have:i=m+1:=(by omega);subst this;rw[hp];simp[chP,c1]
        ·exact hno i h
       ·simp[u22,hw];omega
     ·skip;apply bG
      refine aI (aH ?_);have hf:chF t j name=none:=by
       unfold chF;rw[List.findIdx?_eq_none_iff];intro d hd;obtain⟨i,hi,rfl⟩:=List.mem_iff_getElem.1 hd;rw[←bZ hi];exact hno i (by omega)
      apply aj;refine ah ?_;apply aj;refine dB hg5 ?_;exact k1 hf _ _ hnx' (fun i hi=>by rw[Hp.upd_ne _ _ (by omega)];exact hag i hi) (by simp)
   refine hround _ (fun hf G' nx' hnx' hag hg5=> .inl ⟨rfl,by rw[hag 4 (by omega)];exact h3,by rw[hag 3 (by omega)];exact h4,fun hp=> ?_,fun hp=> ?_⟩) (fun k hf G' nx' hnx' hg2 hg5=> .inr ⟨rfl,?_⟩)
   ·rw[hf,if_neg (by omega)]at h1;have:=hd j h2;exact⟨by omega,h1,by simp[hag,h0],by simp[hag,h6],by simp[hag,h7],by omega,by simp;omega,by simp[hag,h4],by simp[hg5]⟩
   ·rw[hf,if_pos hp]at h1;refine iw (.inl rfl) (by simp[hg5]) ?_;rw[hLs];refine ah ?_;have e2:=hag 2 (by omega);rw[h7]at e2;refine aR fun K' hK=> ?_
    simp[s7,e2];apply hK;clear K' hK;apply aF;simp[lH,Post,aW,res1,bF,bC,aP,bg,bf,okT,okA,ok1,rowOf,Tryz.f70];rw[dF,hh,if_pos rfl,Int.toNat_natCast,h1];rfl
   ·rw[hf]at h1;refine FV (.inr rfl) hg5 ?_;rw[hLs];apply aH;refine aR fun K' hK=> ?_
    simp[s7,hg2];apply hK;clear K' hK;apply aF;simp[lH,Post,aW,res1,bF,bC,aP,bg,bf,okT,okA,ok1,rowOf,Tryz.f70];rw[dF,hh,if_pos rfl,Int.toNat_natCast,h1]
set_option maxRecDepth 100000
set_option maxHeartbeats 4000000
theorem Oa (P:Program) (G:Hp) (n:Nat) (cs:List AV):qx P G (.sl n cs)=some (n,cs):=rfl
theorem uJ:CallsOK Tryz.prog 34 [] (.row 0 1) [(50,flat Pl.cells [rootP])]:=by
 refine aN mixed Tryz.call34 Tryz.func34 rfl (by rw[Tryz.ntmps34];simp) ?_ rfl;rw[Tryz.ntmps34];refine aR fun K' hK=> ?_
 simp;apply hK;clear K' hK;refine aR fun K' hK=> ?_
 simp;apply hK;clear K' hK;apply aF
 simp[au,aG,Post,aW,res1,bF,bC,aP,bg,bf,okT,okA,ok1,rowOf,Tryz.f34];rfl
theorem JC (l:List Pl) (hl:l.length<1000000000000) (hne:l≠[]):CallsOK Tryz.prog 69 [rowT Pl.cells l] (.row 0 l.length) [(50,flat Pl.cells l)]:=by
 refine aN mixed Tryz.call69 Tryz.func69 rfl (by rw[Tryz.ntmps69];simp) ?_ rfl;rw[Tryz.ntmps69];have h1:l.length≤9223372036854775807:=(by omega);have h2:l.length*64≤140737488355328:=(by omega);refine aR fun K' hK=> ?_
 simp;apply hK;clear K' hK;apply aA;refine aR fun K' hK=> ?_
 simp[hne];apply hK;clear K' hK;refine aYk (by simp) ?_;refine aR fun K' hK=> ?_
 simp[h1,h2];apply hK;clear K' hK;apply aF
 simp[au,aG,Post,aW,res1,bF,bC,aP,bg,bf,okT,okA,ok1,rowOf,Tryz.f69]
def cZ (t:List Pl) (i:Int) (name:Bs) (v:Ver):Int:=if checkN t≠0 then checkN t else if¬(0≤i∧i<t.length)then 151 else if rightF name v=false then 1 else
 if chF t i name≠none then 152 else if 200≤t.length∨12≤jw t i.toNat then 2 else 0
def jc (t:List Pl) (i:Int) (name:Bs) (v:Ver):List Pl:=t++[⟨i,name,v⟩]
def AO (t:List Pl) (i:Int) (name:Bs) (v:Ver):List Pl:=if cZ t i name v=0 then jc t i name v else[]
def Ju (t:List Pl) (i:Int) (name:Bs) (v:Ver):Int:=if cZ t i name v=0 then t.length else 0
theorem Ia (t:List Pl) (ht:OKs t) (i:Int) (name:Bs) (v:Ver) (hn:name.size≤4000000000) (hv:v.pre.size≤4000000000):
  CallsOK Tryz.prog 31 [rowT Pl.cells t,iV i,sV name,.agg v.cells] (.tup [.row 0 (AO t i name v).length,iV (Ju t i name v),iV (cZ t i name v)]) [(50,flat Pl.cells (AO t i name v))]:=by
 refine aN mixed Tryz.call31 Tryz.func31 rfl (by rw[Tryz.ntmps31];simp) ?_ rfl;rw[Tryz.ntmps31];refine aR fun K' hK=> ?_
 simp;apply hK;clear K' hK;refine aR fun K' hK=> ?_
 simp;refine ak (lg t ht) rfl (by simp) ?_;simp;apply hK;clear K' hK;refine fC (fun s G nx=>s 0=rowT Pl.cells t∧s 1=iV i∧s 2=sV name∧s 7=.ptr 0 0∧s 11=iV (cZ t i name v)∧G 0=some (.var 23 v.cells)∧nx=2) ?_ ?_
 ·have hl:=ht.1;refine dL (aB ?_);refine aR fun K' hK=> ?_
  simp;apply hK;clear K' hK;by_cases c0:checkN t=0
  ·have hd:=EW c0;refine aV (by simp[c0]) ?_
   by_cases c1:i<0
   ·refine aA ?_;refine aR fun K' hK=> ?_
    simp[c1];apply hK;clear K' hK;refine aX (by simp) ?_;refine aR fun K' hK=> ?_
    simp;apply hK;clear K' hK;apply aj
    refine ah ?_;with_reducible refine bP ?_
    simp[cZ,c0,show¬0≤i by omega]
   ·by_cases c2:(t.length:Int)≤i
    ·refine aA ?_;refine aR fun K' hK=> ?_
     simp[c1,c2];apply hK;clear K' hK;refine aX (by simp) ?_;refine aR fun K' hK=> ?_
     simp;apply hK;clear K' hK;apply aj
     refine ah ?_;with_reducible refine bP ?_
     simp[cZ,c0,show¬i<t.length by omega]
    ·obtain⟨n,rfl⟩:∃n:Nat,i=n:=⟨i.toNat,by omega⟩;have hlt:n<t.length:=(by omega);apply aA;refine aR fun K' hK=> ?_
     simp[c1,c2];apply hK;clear K' hK;refine aY (by simp) ?_;apply aA;refine aR fun K' hK=> ?_
     simp;refine ak (rO name v hn hv) rfl (by simp) ?_;cases c3:rightF name v with
     | false=>
      simp;apply hK;clear K' hK;refine aX (by simp) ?_;refine aR fun K' hK=> ?_
      simp;apply hK;clear K' hK;apply aj
      refine ah ?_;with_reducible refine bP ?_
      simp[cZ,c0,hlt,c3]
     | true=>
      simp;apply hK;clear K' hK;refine aY (by simp) ?_;apply aA;refine aR fun K' hK=> ?_
      simp;refine ak (Iw t n name (by omega)) rfl (by simp) ?_;simp;apply hK;clear K' hK;cases c4:chF t n name with
      | some k=>
       have:(0:Int)≤atI (some k):=(by simp[atI]);refine aX (by simp[this]) ?_;refine aR fun K' hK=> ?_
       simp;apply hK;clear K' hK;apply aj
       refine ah ?_;with_reducible refine bP ?_
       simp[cZ,c0,hlt,c3,c4]
      | none=>
       have:¬(0:Int)≤atI none:=(by simp[atI]);refine aY (by simp[this]) ?_
       by_cases c5:(200:Int)≤t.length
       ·refine aA ?_;refine aR fun K' hK=> ?_
        simp[c5];apply hK;clear K' hK;refine aX (by simp) ?_;refine aR fun K' hK=> ?_
        simp;apply hK;clear K' hK;apply aj
        refine ah ?_;with_reducible refine bP ?_
        simp[cZ,c0,hlt,c3,c4,show 200≤t.length by omega]
       ·refine aA ?_;refine aR fun K' hK=> ?_
        simp[c5];refine ak (EX t hd hl n hlt) rfl (by simp) ?_;simp;apply hK;clear K' hK;by_cases c6:12≤jw t n
        ·skip;refine aX (by simp[c6]) ?_;refine aR fun K' hK=> ?_
         simp;apply hK;clear K' hK;apply aj
         refine ah ?_;with_reducible refine bP ?_
         simp[cZ,c0,hlt,c3,c4,c6]
        ·skip;refine aYk (by simp[c6]) ?_;apply aj
         refine ah ?_;with_reducible refine bP ?_
         simp[cZ,c0,hlt,c3,c4,c6,show¬200≤t.length by omega]
  ·skip;refine aUk (by simp[c0]) ?_;apply aj
   refine ah ?_;with_reducible refine bP ?_
   simp[cZ,c0]
 ·rintro s G nx ⟨s0,s1,s2,s7,s11,g0,rfl⟩;by_cases hc:cZ t i name v=0
  ·have c0:checkN t=0:=by
    apply Classical.byContradiction;intro h;simp[cZ,h]at hc
   have hne:=(nK c0).2.1;have hl:=(nK c0).1;apply aA;refine aR fun K' hK=> ?_
   simp[s11,hc];apply hK;clear K' hK;refine aYk (by simp) ?_;refine IB (by decide+kernel) fun K' hK=> ?_
   simp[qK,kJ,mustPure,uf,isApp,O6,SK,pureA,isVal,s0];refine aO (JC t (by omega) hne) (by simp) ?_;have b1:t.length+1≤9223372036854775807:=(by omega);have b2:(t.length+1)*64≤140737488355328:=(by omega);simp[bK,kJ,mustPure,uf,isApp,O6,SK,pureA,isVal,s0,s1,s2,s7,g0,b1,b2,bQ,dA,Ver.cells,Oa];simp only[rowT];(first | refine hK _ _ _ ?_ | done);clear K' hK;apply aF
   simp[au,aG,Post,aW,res1,bF,bC,aP,bg,bf,okT,okA,ok1,rowOf,Tryz.f31];have e1:AO t i name v=t++[⟨i,name,v⟩]:=(by rw[AO,if_pos hc];rfl);refine⟨[3],⟨⟨by rw[e1];simp,by rw[Ju,if_pos hc],hc.symm⟩,rfl⟩,?_⟩;rw[e1,←dV];rfl
  ·refine aA ?_;refine aR fun K' hK=> ?_
   simp[s11,hc];apply hK;clear K' hK;refine aX (by simp) ?_;apply aA;refine aR fun K' hK=> ?_
   simp[s11];apply hK;clear K' hK;apply aJ
   simp[au,aG,Post,aW,res1,bF,bC,aP,bg,bf,okT,okA,ok1,rowOf,Tryz.f31];simp[AO,Ju,hc];rfl
set_option maxRecDepth 100000
set_option maxHeartbeats 4000000
def entI (M:List (Int×Int)):List (Value×AV):=M.map fun p=>(.int .i64 p.1,iV p.2)
def getI (M:List (Int×Int)) (k:Int):Int:=match M.find? (fun p=>decide (p.1=k))with
 | some p=>p.2
 | none=>0
@[simp] theorem zv3:zvI Tryz.prog 3=some (iV 0):=by kernel_rfl
def Rl (t:List Pl) (i:Int):Int:=if checkN t≠0 then checkN t else if 1≤i∧i<t.length then 0 else 151
def xK (t:List Pl) (i:Int) (k:Nat):List Nat:=(List.range k).filter fun j=> !fU t j i
def TM (t:List Pl) (i:Int) (n:Int):Int:=if n<0 then n else(xK t i n.toNat).length
def V9 (t:List Pl) (i:Int) (j:Nat):Pl:= {nth t j with par:=TM t i (parN t j)}
def Wu (t:List Pl) (i:Int) (k:Nat):List Pl:=(xK t i k).map (V9 t i)
def cutM (t:List Pl) (i:Int) (k:Nat):List (Int×Int):=(-1,-1)::(xK t i k).map fun(j:Nat)=>((j:Int),TM t i j)
def cutR (t:List Pl) (i:Int):List Pl:=if Rl t i=0 then Wu t i t.length else[]
theorem Cb {t:List Pl} {i:Int} {k:Nat} :xK t i (k+1)=xK t i k++if fU t k i=true then[]else[k]:=by
 unfold xK;rw[List.range_succ,List.filter_append];congr 1;cases h:fU t k i<;>simp[h]
set_option maxRecDepth 100000
set_option maxHeartbeats 4000000
theorem qJ (a b:List Pl) (ha:a.length≤1000000000):CallsOK Tryz.prog 17 [rowT Pl.cells a,rowT Pl.cells b] (bV (decide (a=b))) []:=by
 refine aN mixed Tryz.call17 Tryz.func17 rfl (by rw[Tryz.ntmps17];simp) ?_ rfl;rw[Tryz.ntmps17];refine aR fun K' hK=> ?_
 simp;apply hK;clear K' hK;apply aA;refine aR fun K' hK=> ?_
 simp;apply hK;clear K' hK;refine aC fun A B hA hB=> ?_
 simp;refine⟨fun hl=>hA ?_,fun hl=>hB ?_⟩<;>clear hA hB A B<;>(try simp at hl)<;>(try with_reducible refine aK ?_)
 ·refine aA ?_;refine aR fun K' hK=> ?_
  simp;apply hK;clear K' hK;apply aJ
  simp[au,aG,Post,aW,res1,bF,bC,aP,bg,bf,okT,okA,ok1,rowOf,Tryz.f17];intro e;exact hl (by rw[e])
 ·refine aA ?_;refine aR fun K' hK=> ?_
  simp;apply hK;clear K' hK;apply aB
  refine bH (fun s G nx=>s 0=rowT Pl.cells a∧s 1=rowT Pl.cells b∧∃i:Nat,s 5=iV i∧i≤a.length∧a.take i=b.take i) (fun s _ _=>match s 5 with | .v (.int _ n)=>a.length-n.toNat | _=>0) ?_ ?_
  ·exact⟨by simp,by simp,0,by simp,by omega,by simp⟩
  ·rintro s G nx-⟨s0,s1,i,s5,hi,ht⟩;have hw:IntKind.i64.wrap (↑i+1)=((i+1:Nat):Int):=dh (by omega);apply aA;refine aR fun K' hK=> ?_
   simp[s0,s5];apply hK;clear K' hK;refine aC fun A B hA hB=> ?_
   simp;refine⟨fun hi2=>hA ?_,fun hi2=>hB ?_⟩<;>clear hA hB A B<;>(try simp at hi2)<;>(try with_reducible refine aK ?_)
   ·have hi3:i<b.length:=(by omega);apply aB;refine aQ fun K' hK=> ?_
    simp(maxSteps:=1000000) [s0,s1,s5,hi2,hi3];apply hK;clear K' hK;by_cases h1:nth a i=nth b i
    ·skip;refine aVk (by simp[h1]) ?_;apply aj
     refine ah ?_;refine aS fun K' hK=> ?_
     simp[s5,hw];apply hK;clear K' hK;refine aj (ay ?_ ?_)
     ·exact⟨by simp[s0],by simp[s1],i+1,by simp[hw],by omega,nN hi2 hi3 ht h1⟩
     ·simp[s5,hw];omega
    ·skip;refine aU (by simp[h1]) ?_;apply aA;refine aR fun K' hK=> ?_
     simp;apply hK;clear K' hK;apply aJ
     simp[au,aG,Post,aW,res1,bF,bC,aP,bg,bf,okT,okA,ok1,rowOf,Tryz.f17];exact oO h1
   ·skip;apply bG
    refine aI (aH ?_);refine aR fun K' hK=> ?_
    simp;apply hK;clear K' hK;apply aF
    simp[au,aG,Post,aW,res1,bF,bC,aP,bg,bf,okT,okA,ok1,rowOf,Tryz.f17];exact jV (by omega) (by omega) ht
def RY (v:Ver):Bool:=decide (300<v.pre.size)
theorem Qe (v:Ver):CallsOK Tryz.prog 12 [.agg v.cells] (bV (RY v)) []:=by
 refine aN mixed Tryz.call12 Tryz.func12 rfl (by rw[Tryz.ntmps12];simp) ?_ rfl;rw[Tryz.ntmps12];refine aR fun K' hK=> ?_
 simp;apply hK;clear K' hK;refine aR fun K' hK=> ?_
 simp;apply hK;clear K' hK;apply aF
 simp[au,aG,Post,aW,res1,bF,bC,aP,bg,bf,okT,okA,ok1,rowOf,Tryz.f12];simp[RY];omega
def JQ (p:Pl):Bool:=decide (300<p.name.size) || RY p.ver
def bigT (t:List Pl):Bool:=decide ((40<t.length∧t.length≤200)∨210<t.length) || t.any JQ
theorem Qj (t:List Pl) (hl:t.length≤9223372036854775807):CallsOK Tryz.prog 77 [rowT Pl.cells t] (bV (bigT t)) []:=by
 refine aN mixed Tryz.call77 Tryz.func77 rfl (by rw[Tryz.ntmps77];simp) ?_ rfl;rw[Tryz.ntmps77];refine aR fun K' hK=> ?_
 simp;apply hK;clear K' hK;apply aA
 refine fC (fun s G nx=>s 0=rowT Pl.cells t∧s 16=bV (decide ((40<t.length∧t.length≤200)∨210<t.length))) ?_ ?_
 ·by_cases a1:(40:Int)<t.length
  ·by_cases a2:(t.length:Int)≤200
   ·skip;refine aS fun K' hK=> ?_
    simp[a1,a2];apply hK;clear K' hK;with_reducible refine bP ?_
    simp;omega
   ·skip;refine aS fun K' hK=> ?_
    simp[a1,a2];apply hK;clear K' hK;with_reducible refine bP ?_
    refine⟨by simp,?_⟩;simp;rw[Bool.eq_iff_iff];simp;omega
  ·skip;refine aS fun K' hK=> ?_
   simp[a1];apply hK;clear K' hK;with_reducible refine bP ?_
   refine⟨by simp,?_⟩;simp;rw[Bool.eq_iff_iff];simp;omega
 ·rintro s G nx ⟨s0,s16⟩;by_cases hbig:(40<t.length∧t.length≤200)∨210<t.length
  ·rw[decide_eq_true hbig]at s16;refine aX (by simp[s16]) ?_;apply aA;refine aR fun K' hK=> ?_
   simp;apply hK;clear K' hK;apply aJ
   simp[au,aG,Post,aW,res1,bF,bC,aP,bg,bf,okT,okA,ok1,rowOf,Tryz.f77];rw[bigT,decide_eq_true hbig];rfl
  rw[decide_eq_false hbig]at s16;have hs:=decide_eq_false hbig;refine aYk (by simp[s16]) ?_;apply aA;refine aR fun K' hK=> ?_
  simp;apply hK;clear K' hK;apply aB
  refine bH (fun s G nx=>s 0=rowT Pl.cells t∧∃i:Nat,s 3=iV i∧i≤t.length∧(t.take i).any JQ=false) (fun s _ _=>match s 3 with | .v (.int _ n)=>t.length-n.toNat | _=>0) ?_ ?_
  ·exact⟨by simp[s0],0,by simp,by omega,by simp⟩
  ·rintro s G nx-⟨s0,i,s3,hi,ht⟩;have hw:IntKind.i64.wrap (↑i+1)=((i+1:Nat):Int):=dh (by omega);apply aA;refine aR fun K' hK=> ?_
   simp[s0,s3];apply hK;clear K' hK;refine aC fun A B hA hB=> ?_
   simp;refine⟨fun hi2=>hA ?_,fun hi2=>hB ?_⟩<;>clear hA hB A B<;>(try simp at hi2)<;>(try with_reducible refine aK ?_)
   ·skip;apply aB
    have hst:=vM (p:=JQ) hi2;generalize hp:nth t i=p at hst;by_cases h1:(300:Int)<p.name.size
    ·skip;refine aR fun K' hK=> ?_
     simp[s0,s3,hi2,hp,h1];apply hK;clear K' hK;refine aU (by simp) ?_;apply aA;refine aR fun K' hK=> ?_
     simp;apply hK;clear K' hK;apply aJ
     simp[au,aG,Post,aW,res1,bF,bC,aP,bg,bf,okT,okA,ok1,rowOf,Tryz.f77];have:JQ p=true:=(by simp[JQ];omega);rw[bigT,show t.any JQ=true from List.any_eq_true.2 ⟨p,hp▸bM hi2,this⟩];simp
    ·skip;refine aR fun K' hK=> ?_
     simp[s0,s3,hi2,hp,h1];refine ak (Qe p.ver) rfl (by simp) ?_;simp;apply hK;clear K' hK;cases h2:RY p.ver with
     | true=>
      refine aU (by simp) ?_;apply aA;refine aR fun K' hK=> ?_
      simp;apply hK;clear K' hK;apply aJ
      simp[au,aG,Post,aW,res1,bF,bC,aP,bg,bf,okT,okA,ok1,rowOf,Tryz.f77];have:JQ p=true:=(by simp[JQ,h2]);rw[bigT,show t.any JQ=true from List.any_eq_true.2 ⟨p,hp▸bM hi2,this⟩];simp
     | false=>
      refine aVk (by simp) ?_;apply aj
      refine ah ?_;refine aS fun K' hK=> ?_
      simp[s3,hw];apply hK;clear K' hK;refine aj (ay ?_ ?_)
      ·exact⟨by simp[s0],i+1,by simp[hw],by omega,by rw[hst,ht];simp[JQ,h2];omega⟩
      ·simp[s3,hw];omega
   ·skip;apply bG
    refine aI (aH ?_);refine aR fun K' hK=> ?_
    simp;apply hK;clear K' hK;apply aF
    simp[au,aG,Post,aW,res1,bF,bC,aP,bg,bf,okT,okA,ok1,rowOf,Tryz.f77];rw[List.take_of_length_le (by omega)]at ht;rw[bigT,hs,ht];rfl
def largeF (t:List Pl) (name:Bs) (v:Ver):Bool:=bigT t || (decide (1000<name.size) || RY v)
set_option maxRecDepth 100000
set_option maxHeartbeats 400000
def sC (b:Bs):List AV:=[sV b]
instance:Wid sC 1:=⟨fun _=>rfl,by decide⟩
@[simp] theorem sC_get (b:Bs):gU (sC b) 0 1=some [sV b]:=rfl
theorem Rz (l:List Bs):flat sC l=l.map fun b=>sV b:=by
 induction l with
 | nil=>rfl
 | cons a l ih=>rw[List.map_cons,←ih];rfl
theorem QH (xs:List Bs) (sep:Bs) (hN:xs.length≤140737488355328) (hlen:(Lib.join (xs.map bsL) (bsL sep)).length≤140737488355328):CallsOK Tryz.prog 181 [rowT sC xs,sV sep] (sV (ofL (Lib.join (xs.map bsL) (bsL sep)))) []:=by
 refine⟨rfl,Tryz.call181,fun w us F hF hΓ hx=> ?_⟩;obtain⟨u,us,rfl,h1,hx⟩:=hx.jP;obtain⟨u2,us,rfl,h2,hx⟩:=hx.jP;have:us=[]:=List.eq_nil_of_length_eq_zero (by simpa using hx.1);subst this;obtain⟨rfl,_⟩:=h2.iE;have fin:∀ {s:Bs},s=ofL (Lib.join (xs.map bsL) (bsL sep))→(Calls Tryz.prog 181 #[u,.string sep] w fun e w'=>e=.returned (.string s)∧Below w.heap.size w w')→Calls Tryz.prog 181 #[u,.string sep] w fun e w'=>∃v E',e=.returned v∧VR Tryz.prog E' w' (sV (ofL (Lib.join (xs.map bsL) (bsL sep)))) v∧Rel Tryz.prog E' w' (ofJ [])∧E'.F=F∧Below w.heap.size w w'∧∀i b,E'.φ i=some b→w.heap.size≤b:=by
  rintro s rfl h;refine h.mono ?_;rintro e w' ⟨rfl,hb⟩;have hext:Ext (fun _=>False) w w':=Ext.of_below _ hb;exact⟨_,En.zero F,rfl,.tree (.v rfl),zX (fun b h=>Nat.lt_of_lt_of_le (hF b h) hb.size) (fun w'' h'=>hΓ w'' (hext.toC.trans h' fun _ _ h=>h)),rfl,hb,fun i b h=>(by cases h)⟩
 have ht:=h1.oQ;have hfl:=Rz xs;cases xs with
 | nil=>
  cases ht with
  | nil A hn=>exact fin rfl ((Tryz.strings_Join_none _ _ sep w).mono fun e w' ⟨h1,h2⟩=>⟨h1,by rw[h2];exact Below.refl _ _⟩)
  | sl hn h0=>simp at h0
 | cons x xs=>
  cases ht with
  | @sl _ _ ad cap us hn h0 hb hl hc hr=>
   have hn0:(flat sC (x::xs)).length=(x::xs).length:=(by rw[hfl];simp);have hsp:ad=⟨ad.block,ad.off,none⟩:=by
    obtain⟨u0,hu0⟩:∃u0,us[0]? =some u0:=⟨_,List.getElem?_eq_getElem (by omega)⟩;have h3:=hc 0 u0 hu0;have e0:ad.add 0=ad:=(by simp[Addr.add]);rw[e0]at h3;unfold World.cell? at h3;split at h3
    ·obtain⟨b,o,sp⟩:=ad;cases sp with
     | none=>rfl
     | some _=>simp at h3
    ·cases h3
   have hcells:∀(j:Nat) y,(x::xs)[j]? =some y→w.cell? ⟨ad.block,ad.off+j,none⟩=some (.string y):=by
    intro j y hy;have hj:j<(x::xs).length:=(List.getElem?_eq_some_iff.1 hy).1;obtain⟨uj,huj⟩:∃uj,us[j]? =some uj:=⟨_,List.getElem?_eq_getElem (by omega)⟩;have h3:=hr j (sV y) uj (by rw[hfl,List.getElem?_map,hy];rfl) huj;have h4:uj=.string y:=(by cases h3;rfl);have h5:=hc j uj huj;rw[hsp,add_lit,h4]at h5;exact h5
   have hbk:ad.block<w.heap.size:=World.block_lt_of_cell? w ⟨ad.block,ad.off+0,none⟩ (hcells 0 x rfl);have hn':(x::xs).length≤cap:=hn;have ebs:(fun b:Bs=>b.data.toList)=bsL:=rfl;have hj:=Tryz.strings_Join ad.block ad.off cap (x::xs) sep w hcells hbk hN hn';rw[ebs]at hj;have hj:=hj hlen;rw[←hsp]at hj;exact fin rfl hj
set_option maxRecDepth 100000
set_option maxHeartbeats 1000000
@[simp] theorem elI67:elI Tryz.prog 97=some (9,1,16,[.string ⟨#[]⟩]):=by kernel_rfl
set_option maxRecDepth 100000
set_option maxHeartbeats 1000000
def nmB:Bs:=⟨#[110,111,100,101,95,109,111,100,117,108,101,115,47]⟩
def preB (b:Bs):Bs:=nmB++b
def Ou (l:List Bs):Int:=if 12<l.length then 30 else if l.all (fun b=>jq (bsL b))then 0 else 30
def UW (l:List Bs):Bs:=if Ou l=0 then ofL (Lib.join (l.map fun b=>bsL (preB b)) [47])else⟨#[]⟩
theorem Gm (sep:List UInt8) (n:Nat):∀(xs:List (List UInt8)),(∀x∈xs,x.length≤n)→(Lib.join xs sep).length≤xs.length*(n+sep.length)
 | [],_=>by simp[Lib.join,List.intercalate]
 | [x],h=>by
  have:=h x (by simp);simp[Lib.join,List.intercalate];omega
 | x::y::xs,h=>by
  have h1:=h x (by simp);have ih:=Gm sep n (y::xs) (fun z hz=>h z (List.mem_cons_of_mem _ hz));have e:Lib.join (x::y::xs) sep=x++(sep++Lib.join (y::xs) sep):=by
   simp[Lib.join,List.intercalate]
  rw[e,List.length_append,List.length_append,List.length_cons,Nat.add_mul];omega
set_option maxRecDepth 100000
set_option maxHeartbeats 1000000
def Ux (t:List Pl) (l:List Nat):List Bs:=(l.filter fun j=>decide (0<j)).map fun j=>(nth t j).name
def Vq (t:List Pl) (i:Nat):List Bs:=(Ux t (upN t i)).reverse
def AccAt (G:Hp) (nx:Nat) (x:AV) (acc:List Bs):Prop:=(x=.v (.slice none 0 0)∧acc=[])∨∃r,x=.row r acc.length∧G r=some (.row 9 (flat sC acc))∧5≤r∧r<nx
def pathOf (t:List Pl) (i:Int):Bs:=if gG t i then UW (Vq t i.toNat)else⟨#[]⟩
set_option maxRecDepth 100000
set_option maxHeartbeats 1000000
def nmL:List UInt8:=[110,111,100,101,95,109,111,100,117,108,101,115,47]
def KI (l:List UInt8):Bs×List UInt8×Bool:=
 let c:=Lib.cut (Lib.trimPrefix l nmL) [47]
 let c2:=Lib.cut c.2.1 [47]
 let b:=Lib.hasPrefix c.1 [64]&&c.2.2
 (if Lib.hasPrefix l nmL=false then⟨#[]⟩else if b then ofL c.1++(⟨#[47]⟩++ofL c2.1)else ofL c.1,if b then c2.2 else c.2)
def KO:Nat→List UInt8→Option (List Bs)
 | 0,_=>none
 | k+1,l=>if jq (bsL (KI l).1)then(if(KI l).2.2 then(KO k (KI l).2.1).map ((KI l).1:: ·)else some [(KI l).1])else none
def Qz (s:Bs):Option (List Bs):=if s=⟨#[]⟩then some []else KO 12 (bsL s)
def splitR (s:Bs):AV×Js:=match Qz s with
 | none=>(.tup [.v (.slice none 0 0),bV false],[])
 | some []=>(.tup [.v (.slice none 0 0),bV true],[])
 | some (a::l)=>(.tup [.row 0 (a::l).length,bV true],[(9,flat sC (a::l))])
set_option maxRecDepth 100000
set_option maxHeartbeats 1000000
def Qq (t:List Pl):Int→List Bs→Option Int
 | c,[]=>some c
 | c,b::r=>match chF t c b with
  | some k=>Qq t k r
  | none=>none
def findF (t:List Pl) (s:Bs):Option Int:=match Qz s with
 | none=>none
 | some l=>if checkN t=0 then Qq t 0 l else none
set_option maxRecDepth 100000
set_option maxHeartbeats 1000000
def jf (t:List Pl) (i:Nat) (k:Nat):List Int:=((List.range k).filter fun j=>decide (i≤j)&&fU t j i).map fun(j:Nat)=>(j:Int)
def fF (t:List Pl) (i:Int):List Int:=if gG t i then jf t i.toNat t.length else[]
theorem FI {t:List Pl} {i k:Nat} (h:i≤k):jf t i (k+1)=jf t i k++if fU t k i=true then[(k:Int)]else[]:=by
 unfold jf;rw[List.range_succ,List.filter_append,List.map_append];congr 1;cases hu:fU t k i<;>simp[hu,h]
theorem IC {t:List Pl} {i k:Nat} :(jf t i k).length≤k:=by
 have:=List.length_filter_le (fun j=>decide (i≤j)&&fU t j i) (List.range k);simpa [jf]using this
theorem Jw (t:List Pl) (ht:OKs t) (i:Int):CallsOK Tryz.prog 35 [rowT Pl.cells t,iV i] (.row 0 (fF t i).length) [(3,flat iC (fF t i))]:=by
 refine aN mixed Tryz.call35 Tryz.func35 rfl (by rw[Tryz.ntmps35];simp) ?_ rfl;rw[Tryz.ntmps35];refine aR fun K' hK=> ?_
 simp;apply hK;clear K' hK;apply aA;refine aR fun K' hK=> ?_
 simp;refine ak (y9 t ht i) rfl (by simp) ?_;cases hh:gG t i with
 | false=>
  have e:fF t i=[]:=(by rw[fF,hh];rfl);simp;apply hK;clear K' hK;refine aX (by simp) ?_;apply aA;refine aR fun K' hK=> ?_
  simp;apply hK;clear K' hK;apply aJ
  simp[au,aG,Post,aW,res1,bF,bC,aP,bg,bf,okT,okA,ok1,rowOf,Tryz.f35];rw[e];exact⟨[1],⟨rfl,rfl⟩,rfl⟩
 | true=>
  obtain⟨hch,hi0,hi1⟩:=nX hh;obtain⟨n,rfl⟩:∃n:Nat,i=n:=⟨i.toNat,by omega⟩;have hn:n<t.length:=(by omega);have hd:=EW hch;have hl:=ht.1;have e:fF t n=jf t n t.length:=(by rw[fF,hh];simp);have hk0:jf t n n=[]:=by
   unfold jf;rw[show(List.range n).filter (fun j=>decide (n≤j)&&fU t j n)=[] from List.filter_eq_nil_iff.2 (fun j hj=>by have:=List.mem_range.1 hj;simp;omega)];rfl
  simp;apply hK;clear K' hK;refine aYk (by simp) ?_;refine aR fun K' hK=> ?_
  simp;apply hK;clear K' hK;apply aA;refine aR fun K' hK=> ?_
  simp;apply hK;clear K' hK;apply aB
  refine bH (fun u G nx=>u 0=rowT Pl.cells t∧u 1=iV n∧∃k r:Nat,u 6=iV k∧n≤k∧k≤t.length∧u 5=.row r (jf t n k).length∧G r=some (.row 3 (flat iC (jf t n k)))∧r<nx) (fun u _ _=>match u 6 with | .v (.int _ n)=>t.length-n.toNat | _=>0) ?_ ?_
  ·exact⟨by simp,by simp,n,1,by simp,by omega,by omega,by simp[hk0],by simp[hk0],by omega⟩
  ·rintro u G nx-⟨u0,u1,k,r,u6,hnk,hk,u5,gr,hrn⟩;have hw:IntKind.i64.wrap (↑k+1)=((k+1:Nat):Int):=dh (by omega);have hbs:=FI (t:=t) hnk;have hlen:=IC (t:=t) (i:=n) (k:=k);apply aA;refine aR fun K' hK=> ?_
   simp[u0,u6];apply hK;clear K' hK;refine aC fun A B hA hB=> ?_
   simp;refine⟨fun hi2=>hA ?_,fun hi2=>hB ?_⟩<;>clear hA hB A B<;>(try simp at hi2)<;>(try with_reducible refine aK ?_)
   ·skip;apply aB;refine aR fun K' hK=> ?_
    simp[u0,u1,u6];refine ak (Jj t hd hl k hi2 n) rfl (by simp) ?_;simp;apply hK;clear K' hK;cases hu:fU t k n with
    | true=>
     rw[hu]at hbs;have b1:(jf t n k).length+1≤9223372036854775807:=(by omega);have b2:((jf t n k).length+1)*8≤140737488355328:=(by omega);have n1:¬r=nx:=(by omega);refine aU (by simp) ?_;refine aR fun K' hK=> ?_
     simp[u5,u6,gr,b1,b2,n1,bQ,dA];apply hK;clear K' hK;apply aj
     refine ah ?_;refine aS fun K' hK=> ?_
     simp[u6,hw];apply hK;clear K' hK;refine aj (ay ?_ ?_)
     ·refine⟨by simp[u0],by simp[u1],k+1,nx+1,by simp[hw],by omega,by omega,?_,?_,by omega⟩
      ·rw[hbs];simp
      ·rw[hbs,if_pos rfl,Hp.bW,←AB];rfl
     ·simp[u6,hw];omega
    | false=>
     rw[hu]at hbs;have hbs':jf t n (k+1)=jf t n k:=(by rw[hbs];simp);refine aVk (by simp) ?_;apply aj
     refine ah ?_;refine aS fun K' hK=> ?_
     simp[u6,hw];apply hK;clear K' hK;refine aj (ay ?_ ?_)
     ·exact⟨by simp[u0],by simp[u1],k+1,r,by simp[hw],by omega,by omega,by rw[hbs'];simp[u5],by rw[hbs'];exact gr,hrn⟩
     ·simp[u6,hw];omega
   ·skip;apply bG
    refine aI (aH ?_);have:k=t.length:=(by omega);subst this;refine aR fun K' hK=> ?_
    simp[u5];apply hK;clear K' hK;apply aF
    simp[au,aG,Post,aW,res1,bF,bC,aP,bg,bf,okT,okA,ok1,rowOf,Tryz.f35,gr];rw[e];exact⟨[r],⟨rfl,rfl⟩,by simp[rowOf,gr]⟩
set_option maxHeartbeats 400000
theorem uG {α:Type} [Inhabited α] {l:List α} {i k:Nat} {a:α} (hi:i<l.length):nth (l.set i a) k=if k=i then a else nth l k:=by
 unfold nth;rw[List.getD_eq_getElem?_getD,List.getD_eq_getElem?_getD,List.getElem?_set];by_cases h:i=k
 ·subst h;simp[hi]
 ·have h':¬k=i:=fun e=>h e.symm;simp[h,h']
theorem xQ {α:Type} [Inhabited α] {l m:List α} {i:Nat} (h:i<l.length):nth (l++m) i=nth l i:=by
 rw[bZ (by simp;omega),bZ h,List.getElem_append_left h]
theorem yM {α:Type} [Inhabited α] {l:List α} {a:α} {m:List α} :nth (l++a::m) l.length=a:=by
 rw[bZ (by simp),List.getElem_append_right (Nat.le_refl _)];simp
structure Good (t:List Pl):Prop where
 le:t.length≤200
 pos:0<t.length
 root:nth t 0=rootP
 par:∀j,1≤j→j<t.length→0≤parN t j∧parN t j<j
 right:∀j,1≤j→j<t.length→rightF (nth t j).name (nth t j).ver=true
 uniq:∀j k,1≤j→j<k→k<t.length→parN t j=parN t k→(nth t j).name=(nth t k).name→False
 high:∀j,1≤j→j<t.length→(upN t j).length≤13
theorem Pn {t:List Pl} (h0:parN t 0= -1) (hp:∀j,1≤j→j<t.length→0≤parN t j∧parN t j<j):Dn t:=by
 intro i hi;rcases Nat.eq_zero_or_pos i with rfl | h
 ·rw[h0];omega
 ·exact(hp i h hi).2
theorem iQ {t:List Pl} (h:nth t 0=rootP):parN t 0= -1:=by rw[parN,h];rfl
theorem Good.dn {t:List Pl} (g:Good t):Dn t:=Pn (iQ g.root) g.par
theorem Ef {t:List Pl} (h0:parN t 0= -1):upN t 0=[0]:=by
 unfold upN;rw[upF,if_pos (by omega)]
theorem NU {t:List Pl} (h0:parN t 0= -1) (hp:∀j,1≤j→j<t.length→0≤parN t j∧parN t j<j):∀i,i<t.length→∀j,j≤i→nth (dD t i) j+1=((upN t j).length:Int)
 | 0,hi,j,hj=>by
  have:j=0:=(by omega);subst this;rw[Ef h0,dD,bZ (by simpa using hi)];simp
 | i+1,hi,j,hj=>by
  have ih:=NU h0 hp i (by omega);rw[dD,uG (by rw[yD];exact hi),qG hi];by_cases h:j=i+1
  ·subst h;obtain⟨h1,h2⟩:=hp (i+1) (by omega) hi;have hq:(nth t (i+1)).par=parN t (i+1):=rfl;rw[if_pos rfl,hq,ih _ (by omega),iJ (Pn h0 hp) hi,if_neg (by omega)];simp
  ·rw[if_neg h];exact ih j (by omega)
theorem mem_keys {t:List Pl} {i:Nat} (h:i<t.length) {k:Key} :k∈ku t i↔∃j,1≤j∧j≤i∧D8 (nth t j)=k:=by
 unfold ku;rw[List.mem_map];constructor
 ·rintro⟨p,hp,rfl⟩;obtain⟨j,hj,rfl⟩:=List.mem_iff_getElem.1 hp;rw[List.length_take,List.length_tail]at hj;refine⟨j+1,by omega,by omega,?_⟩;rw[List.getElem_take,bZ (by omega)];simp
 ·rintro⟨j,h1,h2,rfl⟩;obtain⟨j,rfl⟩:∃m,j=m+1:=⟨j-1,by omega⟩;refine⟨nth t (j+1),List.mem_iff_getElem.2 ⟨j,by rw[List.length_take,List.length_tail];omega,?_⟩,rfl⟩;rw[List.getElem_take,bZ (by omega)];simp
theorem oC {t:List Pl} {i:Nat} (h:i+1<t.length):xC t i=true↔(0≤parN t (i+1)∧parN t (i+1)≤i)∧rightF (nth t (i+1)).name (nth t (i+1)).ver=true∧
  (∀j,1≤j→j≤i→parN t j=parN t (i+1)→(nth t j).name=(nth t (i+1)).name→False)∧nth (dD t i) (parN t (i+1)).toNat+1≤12:=by
 have hk:D8 (nth t (i+1))∉ku t i↔(∀j,1≤j→j≤i→parN t j=parN t (i+1)→(nth t j).name=(nth t (i+1)).name→False):=by
  rw[mem_keys (by omega)];constructor
  ·intro h j h1 h2 h3 h4;refine h ⟨j,h1,h2,?_⟩;unfold D8;rw[h4];exact congrArg (Key.mk · _) h3
  ·rintro h ⟨j,h1,h2,h3⟩;unfold D8 at h3;injection h3 with h3 h4;exact h j h1 h2 h3 h4
 simp only[xC,Bool.and_eq_true,decide_eq_true_eq,qG h,hk];exact⟨fun⟨a,b,c,d,e⟩=>⟨⟨a,b⟩,c,d,e⟩,fun⟨⟨a,b⟩,c,d,e⟩=>⟨a,b,c,d,e⟩⟩
theorem dZ {t:List Pl} :checkN t=0↔Good t:=by
 constructor
 ·intro h;obtain⟨h1,h2,h3,h4⟩:=nK h;have h0:=iQ h3;have hp:∀j,1≤j→j<t.length→0≤parN t j∧parN t j<j:=fun j hj hl=>by
   obtain⟨j,rfl⟩:∃m,j=m+1:=⟨j-1,by omega⟩;have:=((oC hl).1 (h4 j hl)).1;omega
  refine⟨h1,List.length_pos_iff.2 h2,h3,hp,fun j hj hl=> ?_,fun j k h1 h2 h3=> ?_,fun j hj hl=> ?_⟩
  ·obtain⟨j,rfl⟩:∃m,j=m+1:=⟨j-1,by omega⟩;exact((oC hl).1 (h4 j hl)).2.1
  ·obtain⟨k,rfl⟩:∃m,k=m+1:=⟨k-1,by omega⟩;exact((oC h3).1 (h4 k h3)).2.2.1 j h1 (by omega)
  ·obtain⟨j,rfl⟩:∃m,j=m+1:=⟨j-1,by omega⟩;have:=((oC hl).1 (h4 j hl)).2.2.2;have hq:=hp (j+1) hj hl;rw[NU h0 hp j (by omega) _ (by omega)]at this;rw[iJ (Pn h0 hp) hl,if_neg (by omega)];simp;omega
 ·intro g;have h0:=iQ g.root;unfold checkN;rw[if_neg (by have:=g.le;omega),if_neg (by simp[g.root,List.ne_nil_of_length_pos g.pos]),if_pos];unfold qo;rw[List.all_eq_true];intro j hj;have hl:j+1<t.length:=by
   have:=List.mem_range.1 hj;rw[List.length_tail]at this;omega
  have hq:=g.par (j+1) (by omega) hl;refine(oC hl).2 ⟨by omega,g.right _ (by omega) hl,fun k h1 h2=>g.uniq k (j+1) h1 (by omega) hl,?_⟩;rw[NU h0 g.par j (by omega) _ (by omega)];have:=g.high (j+1) (by omega) hl;rw[iJ g.dn hl,if_neg (by omega)]at this;simp at this;omega
theorem gI {t:List Pl} {i:Int} :gG t i=true↔Good t∧0≤i∧i<t.length:=by
 simp[gG,dZ]
theorem ql {t:List Pl} {p:Int} {b:Bs} {k:Nat} (h:chF t p b=some k):k<t.length∧parN t k=p∧(nth t k).name=b:=by
 unfold chF at h;rw[List.findIdx?_eq_some_iff_getElem]at h;obtain⟨h1,h2,_⟩:=h;rw[←bZ h1]at h2;have:=of_decide_eq_true h2;exact⟨h1,this⟩
theorem kK {t:List Pl} {p:Int} {b:Bs} :chF t p b=none↔∀k,k<t.length→parN t k=p→(nth t k).name=b→False:=by
 unfold chF;rw[List.findIdx?_eq_none_iff];constructor
 ·intro h k hk h1 h2;have:=h _ (bM hk);simp only[chP,decide_eq_false_iff_not]at this;exact this ⟨h1,h2⟩
 ·intro h p hp;obtain⟨k,hk,rfl⟩:=List.mem_iff_getElem.1 hp;rw[←bZ hk];simp only[chP,decide_eq_false_iff_not];exact fun⟨h1,h2⟩=>h k hk h1 h2
theorem Good.child {t:List Pl} (g:Good t) {p:Int} (hp:0≤p) {b:Bs} {k:Nat} (hk:k<t.length) (h1:parN t k=p) (h2:(nth t k).name=b):chF t p b=some k:=by
 cases h:chF t p b with
 | none=>exact(kK.1 h k hk h1 h2).elim
 | some j=>
  obtain⟨a1,a2,a3⟩:=ql h;have h0:=iQ g.root;have hj:1≤j:=by
   rcases Nat.eq_zero_or_pos j with rfl | h
   ·omega
   ·exact h
  have hk1:1≤k:=by
   rcases Nat.eq_zero_or_pos k with rfl | h
   ·omega
   ·exact h
  rcases Nat.lt_trichotomy j k with hl | rfl | hl
  ·exact(g.uniq j k hj hl hk (by rw[a2,h1]) (by rw[a3,h2])).elim
  ·rfl
  ·exact(g.uniq k j hk1 hl a1 (by rw[a2,h1]) (by rw[a3,h2])).elim
section
variable {t:List Pl} {i:Int} {b:Bs} {v:Ver}
theorem fG:(jc t i b v).length=t.length+1:=by simp[jc]
theorem add_lt {j:Nat} (h:j<t.length):nth (jc t i b v) j=nth t j:=xQ h
theorem add_eq:nth (jc t i b v) t.length=⟨i,b,v⟩:=yM
theorem pU {j:Nat} (h:j<t.length):parN (jc t i b v) j=parN t j:=by unfold parN;rw[add_lt h]
theorem sS:parN (jc t i b v) t.length=i:=by unfold parN;rw[add_eq]
theorem lU (h:cZ t i b v=0):Good t∧(0≤i∧i<t.length)∧rightF b v=true∧chF t i b=none∧t.length<200∧(upN t i.toNat).length≤12:=by
 unfold cZ at h;split at h
 ·rename_i h1;exact absurd h h1
 rename_i h1;split at h
 ·cases h
 rename_i h2;split at h
 ·cases h
 rename_i h3;split at h
 ·cases h
 rename_i h4;split at h
 ·cases h
 rename_i h5;unfold jw at h5;exact⟨dZ.1 (Decidable.not_not.1 h1),Decidable.not_not.1 h2,by simpa using h3,Decidable.not_not.1 h4,by omega,by omega⟩
theorem up_add (g:Good t) (hi:0≤i∧i<t.length):∀(m j:Nat),j<m→j<t.length→upN (jc t i b v) j=upN t j
 | 0,j,h,_=>by omega
 | m+1,j,h,hj=>by
  have hd:Dn (jc t i b v):=by
   intro k hk;rw[fG]at hk;rcases Nat.lt_or_ge k t.length with h | h
   ·rw[pU h];exact g.dn k h
   ·have:k=t.length:=(by omega);subst this;rw[sS];omega
  have hdj:=g.dn j hj;rw[iJ hd (by rw[fG];omega),iJ g.dn hj,pU hj];congr 1;split
  ·rfl
  ·exact up_add g hi m _ (by omega) (by omega)
theorem nV (h:cZ t i b v=0):Good (jc t i b v):=by
 obtain⟨g,hi,hr,hc,hl,hh⟩:=lU h;have hpos:=g.pos;have hroot:nth (jc t i b v) 0=rootP:=(by rw[add_lt hpos];exact g.root);have hpar:∀j,1≤j→j<(jc t i b v).length→0≤parN (jc t i b v) j∧parN (jc t i b v) j<j:=by
  intro j hj hjl;rw[fG]at hjl;rcases Nat.lt_or_ge j t.length with h | h
  ·rw[pU h];exact g.par j hj h
  ·have:j=t.length:=(by omega);subst this;rw[sS];omega
 refine⟨by rw[fG];omega,by rw[fG];omega,hroot,hpar,?_,?_,?_⟩
 ·intro j hj hjl;rw[fG]at hjl;rcases Nat.lt_or_ge j t.length with h | h
  ·rw[add_lt h];exact g.right j hj h
  ·have:j=t.length:=(by omega);subst this;rw[add_eq];exact hr
 ·intro j k hj hjk hk h1 h2;rw[fG]at hk;rw[pU (by omega)]at h1;rw[add_lt (by omega)]at h2;rcases Nat.lt_or_ge k t.length with h | h
  ·rw[pU h]at h1;rw[add_lt h]at h2;exact g.uniq j k hj hjk h h1 h2
  ·have:k=t.length:=(by omega);subst this;rw[sS]at h1;rw[add_eq]at h2;exact kK.1 hc j hjk h1 h2
 ·intro j hj hjl;rw[fG]at hjl;rcases Nat.lt_or_ge j t.length with h | h
  ·rw[up_add g hi _ j (Nat.lt_succ_self _) h];exact g.high j hj h
  ·have:j=t.length:=(by omega);subst this;rw[iJ (Pn (iQ hroot) hpar) (by rw[fG];omega),sS,if_neg (by omega),up_add g hi _ _ (Nat.lt_succ_self _) (by omega)];simp;omega
theorem LD {p:Int} {c:Bs} :chF (jc t i b v) p c=match chF t p c with
  | some k=>some k
  | none=>if i=p∧b=c then some t.length else none:=by
 unfold chF jc;rw[List.findIdx?_append];cases h:List.findIdx? (chP p c) t with
 | some k=>simp
 | none=>
  by_cases hx:i=p∧b=c
  ·simp[chP,hx,List.findIdx?_cons]
  ·simp[chP,hx,List.findIdx?_cons]
theorem Bc {i:Nat} (hh:Good t) (hi:i<t.length) {k:Nat} (hc:chF t i b=some k):dF t i b=k:=by
 have h:gG t i=true:=gI.2 ⟨hh,by omega,by omega⟩;rw[dF,h,if_pos rfl,Int.toNat_natCast,iJ hh.dn hi,MZ,hc]
theorem F9 {i:Nat} (hh:Good t) (hi:i<t.length) (hc:chF t i b=none) (hp:0≤parN t i):dF t i b=dF t (parN t i) b:=by
 have h:gG t i=true:=gI.2 ⟨hh,by omega,by omega⟩;have:=hh.dn i hi;have h2:gG t (parN t i)=true:=gI.2 ⟨hh,by omega,by omega⟩;rw[dF,h,if_pos rfl,Int.toNat_natCast,iJ hh.dn hi,MZ,hc,if_neg (by omega)];rw[dF,h2,if_pos rfl]
theorem Hw (hh:Good t) {i:Nat} (hi:i<t.length) (hc:chF t i b=none) (hp:parN t i<0):dF t i b= -1:=by
 have h:gG t i=true:=gI.2 ⟨hh,by omega,by omega⟩;rw[dF,h,if_pos rfl,Int.toNat_natCast,iJ hh.dn hi,MZ,hc,if_pos hp];rfl
theorem KX (h:cZ t i b v=0):checkN (jc t i b v)=0∧dF (jc t i b v) i b=t.length∧dF (jc t i b v) t.length b=t.length:=by
 obtain⟨g,hi,hr,hc,hl,hh⟩:=lU h;have ga:=nV h;have e1:chF (jc t i b v) i b=some t.length:=(by rw[LD,hc];simp);obtain⟨n,rfl⟩:∃n:Nat,i=n:=⟨i.toNat,by omega⟩;have hn:n<(jc t n b v).length:=(by rw[fG];omega);have r1:=Bc ga hn e1;have e2:chF (jc t n b v) t.length b=none:=by
  rw[LD];have:chF t t.length b=none:=kK.2 fun k hk h1 _=>(by have:=g.dn k hk;omega);rw[this];simp;omega
 refine⟨dZ.2 ga,r1,?_⟩;rw[F9 ga (by rw[fG];omega) e2 (by rw[sS];omega),sS,r1]
end
set_option maxHeartbeats 400000
def rkN (t:List Pl) (i:Int) (j:Nat):Nat:=(xK t i j).length
section
variable {t:List Pl} {i:Int}
theorem NR {k:Nat} :rkN t i (k+1)=rkN t i k+if fU t k i=true then 0 else 1:=by
 unfold rkN;rw[Cb,List.length_append];split<;>rfl
theorem QW {a:Nat} :∀d:Nat,rkN t i a≤rkN t i (a+d)∧rkN t i (a+d)≤rkN t i a+d
 | 0=>⟨Nat.le_refl _,Nat.le_refl _⟩
 | d+1=>by
  have:=QW (a:=a) d;rw[←Nat.add_assoc,NR];split<;>omega
theorem Sz {j k:Nat} (h:j≤k):rkN t i j≤rkN t i k:=by
 have:=(QW (t:=t) (i:=i) (a:=j) (k-j)).1
 rwa [Nat.add_sub_cancel' h]at this
theorem Vu {j k:Nat} (hu:fU t j i=false) (h:j<k):rkN t i j<rkN t i k:=by
 have h1:=Sz (t:=t) (i:=i) (j:=j+1) (k:=k) (by omega);rw[NR,hu]at h1;simp at h1;omega
theorem PV:∀(m:Nat) {j:Nat},j<m→fU t j i=false→(xK t i m)[rkN t i j]? =some j
 | 0,j,h,_=>by omega
 | m+1,j,h,hu=>by
  rw[Cb];rcases Nat.lt_or_ge j m with h1 | h1
  ·rw[List.getElem?_append_left (Vu hu h1)];exact PV m h1 hu
  ·have:j=m:=(by omega);subst this;rw[hu,List.getElem?_append_right (show(xK t i j).length≤rkN t i j from Nat.le_refl _)];simp[rkN]
theorem QK (g:Good t):∀(m:Nat) {j x:Nat},j<m→j<t.length→x∈upN t j→x≤j
 | 0,j,x,h,_,_=>by omega
 | m+1,j,x,h,hj,hx=>by
  have hd:=g.dn j hj;rw[iJ g.dn hj]at hx;rcases List.mem_cons.1 hx with rfl | hx
  ·exact Nat.le_refl _
  ·split at hx
   ·cases hx
   ·have:=QK g m (j:=(parN t j).toNat) (by omega) (by omega) hx;omega
theorem Gw (g:Good t) {j:Nat} (hj:j<t.length) (h:fU t j i=true):i≤j:=by
 unfold fU at h;obtain⟨x,hx,h⟩:=List.any_eq_true.1 h;have:=QK g _ (Nat.lt_succ_self j) hj hx;have:=of_decide_eq_true h;omega
end
set_option linter.unusedSectionVars false
section
variable {t:List Pl} {i:Int} (g:Good t) (h1:1≤i) (h2:i<t.length)
include g h1 h2
end
section
variable {t:List Pl}
end
set_option maxHeartbeats 400000
theorem Kr:bsL ⟨#[]⟩=[]:=rfl
theorem kU {l:List UInt8} {i:Nat} (h:i<l.length):by8 l i=l[i]:=by
 simp[by8,List.getD_eq_getElem?_getD,h]
theorem EZ:∀ {a r:List UInt8} {c:UInt8},c∉a→Lib.indexByte (a++c::r) c=a.length
 | [],r,c,_=>by simp[Lib.indexByte]
 | b::a,r,c,h=>by
  have h1:(b==c)=false:=by
   simpa using fun e=>h (by simp[e])
  have h2:=EZ (a:=a) (r:=r) (c:=c) (fun e=>h (List.mem_cons_of_mem _ e));rw[List.cons_append,Lib.indexByte,h1,h2];have h3:((a.length:Int)== -1)=false:=by
   rw[beq_eq_false_iff_ne];omega
  simp[h3]
theorem wK:∀ {a:List UInt8} {c:UInt8},c∉a→Lib.indexByte a c= -1
 | [],c,_=>rfl
 | b::a,c,h=>by
  have h1:(b==c)=false:=by
   simpa using fun e=>h (by simp[e])
  rw[Lib.indexByte,h1,wK (a:=a) (fun e=>h (List.mem_cons_of_mem _ e))];simp
theorem TW {a r:List UInt8} {c:UInt8} (h:c∉a):Lib.cut (a++c::r) [c]=(a,r,true):=by
 unfold Lib.cut;rw[Lib.index_one,EZ h,if_pos (by omega)];simp
theorem cut_out {a:List UInt8} {c:UInt8} (h:c∉a):Lib.cut a [c]=(a,[],false):=by
 unfold Lib.cut;rw[Lib.index_one,wK h,if_neg (by omega)]
theorem qV:∀ {l:List UInt8} {c:UInt8},c∈l→∃a r,c∉a∧l=a++c::r
 | [],c,h=>by cases h
 | b::l,c,h=>by
  by_cases hb:c=b
  ·exact⟨[],l,by simp,by simp[hb]⟩
  ·obtain⟨a,r,h1,h2⟩:=qV (l:=l) (c:=c) (by simpa [hb]using h);exact⟨b::a,r,by simp[hb,h1],by simp[h2]⟩
theorem Qh (l:List UInt8) (c:UInt8):(c∉l∧Lib.cut l [c]=(l,[],false))∨(∃a r,c∉a∧l=a++c::r∧Lib.cut l [c]=(a,r,true)):=by
 by_cases h:c∈l
 ·obtain⟨a,r,h1,h2⟩:=qV h;exact .inr ⟨a,r,h1,h2,by rw[h2,TW h1]⟩
 ·exact .inl ⟨h,cut_out h⟩
theorem RV {p r:List UInt8} :Lib.trimPrefix (p++r) p=r:=by
 have:Lib.hasPrefix (p++r) p=true:=List.isPrefixOf_iff_prefix.2 ⟨r,rfl⟩;unfold Lib.trimPrefix;rw[this];simp
def joinB (l:List Bs):List UInt8:=Lib.join (l.map fun b=>bsL (preB b)) [47]
open Go Go.RowKit
section
variable {P:Program} [Gl P] {N:Nat} {K:Exit→KS} {s:Sl} {G:Hp} {nx:Nat}
theorem uo {a b c:Code} (h:AW P N (.seq (.seq a b) c) K s G nx):AW P N (.seq a (.seq b c)) K s G nx:=by
 have e:AW P N (.seq (.seq a b) c) K=AW P N (.seq a (.seq b c)) K:=by
  show AW P N a _=AW P N a _;congr 1;funext e;cases e<;>rfl
 rw[←e];exact h
theorem Gx {ops:Array Oper} {d:Bool} {K:KS} :∀(a b:List Oper),uQ P N ops d (a++b) K=uQ P N ops d a (uQ P N ops d b K)
 | [],b=>rfl
 | o::a,b=>by
  show xG P N ops d o (uQ P N ops d (a++b) K)=xG P N ops d o (uQ P N ops d a (uQ P N ops d b K));rw[Gx a b]
theorem bI {ops:Array Oper} {d:Bool} {K:KS} {os:List Oper} (j:Nat) (h:∀K2:KS,(∀s G nx,uQ P N ops d (os.drop j) K s G nx→K2 s G nx)→uQ P N ops d (os.take j) K2 s G nx):uQ P N ops d os K s G nx:=by
 have:=h _ fun _ _ _ h=>h;rw[←Gx,List.take_append_drop]at this;exact this
end
set_option maxRecDepth 100000
set_option maxHeartbeats 1000000
theorem uI {t:List Pl} (h:bigT t=false):OKs t:=by
 simp only[bigT,Bool.or_eq_false_iff,decide_eq_false_iff_not]at h;refine⟨by omega,fun p hp=> ?_⟩;have:=List.any_eq_false.1 h.2 p hp;simp[JQ,RY]at this;omega
theorem zU {t:List Pl} {b:Bs} (g:Good t):∀(m:Nat) {j:Nat},j<m→j<t.length→dF t j b= -1∨∃k:Nat,dF t j b=k∧1≤k∧k<t.length∧(nth t k).name=b
 | 0,j,h,_=>by omega
 | m+1,j,h,hj=>by
  have hd:=g.dn j hj;cases hc:chF t j b with
  | some k=>
   obtain⟨a1,a2,a3⟩:=ql hc;refine .inr ⟨k,Bc g hj hc,?_,a1,a3⟩;rcases Nat.eq_zero_or_pos k with rfl | h
   ·have:=iQ g.root;omega
   ·exact h
  | none=>
   by_cases hp:0≤parN t j
   ·rw[F9 g hj hc hp];have:=zU (b:=b) g m (j:=(parN t j).toNat) (by omega) (by omega)
    rwa [Int.toNat_of_nonneg hp]at this
   ·exact .inl (Hw g hj hc (by omega))
theorem RD {t:List Pl} {i:Int} {b:Bs} {v:Ver} (ht:OKs t) (hl:t.length<1000000000) (hb:b.size≤4000000000) (hv:v.pre.size≤4000000000):OKs (jc t i b v):=
 ⟨by rw[fG];omega,fun p hp=>by
  rcases List.mem_append.1 hp with h | h
  ·exact ht.2 p h
  ·rw[List.mem_singleton.1 h];exact⟨hb,hv⟩⟩
theorem c34:Tryz.prog.cellsOf 50=6:=by kernel_rfl
theorem Nw {G:Hp} {r n:Nat} {t:List Pl} (hG:G r=some (.row 50 (flat Pl.cells t))) (hne:t≠[]):bT G (.row r n)=G.upd r (.frz 50 (flat Pl.cells t)):=by
 cases t with
 | nil=>exact absurd rfl hne
 | cons p t=>rw[mV,hG];rfl
theorem NS {G:Hp} {r n:Nat} {e:Nat} {cs:List AV} (hG:G r=some (.frz e cs)):bT G (.row r n)=G:=by
 rw[mV,hG]
theorem wE {α:Type} (p:α→Bool):∀l:List α,(l.filter p).length+(l.filter fun x=> !p x).length=l.length
 | []=>rfl
 | a::l=>by
  have:=wE p l;cases h:p a<;>simp[h]<;>omega
theorem below_kept {t:List Pl} {i:Nat} (g:Good t) (hi:i<t.length):(fF t i).length+rkN t i t.length=t.length:=by
 have hh:gG t i=true:=gI.2 ⟨g,by omega,by omega⟩;rw[fF,hh,if_pos rfl,Int.toNat_natCast];unfold jf rkN xK;rw[List.length_map];have e:(List.range t.length).filter (fun j=>decide (i≤j)&&fU t j i)=(List.range t.length).filter (fun j=>fU t j i):=by
  refine List.filter_congr fun j hj=> ?_;have hj:=List.mem_range.1 hj;cases hu:fU t j i with
  | false=>simp
  | true=>have:=Gw g hj hu;simp;omega
 rw[e];have:=wE (fun j=>fU t j i) (List.range t.length);rw[List.length_range]at this;exact this
theorem CP {t:List Pl} {i k:Nat} (g:Good t) (hi:i<t.length) (hk:k<t.length):(fF t i).any (fun x=>decide (x=(k:Int)))=fU t k i:=by
 have hh:gG t i=true:=gI.2 ⟨g,by omega,by omega⟩;rw[fF,hh,if_pos rfl,Int.toNat_natCast];unfold jf;rw[Bool.eq_iff_iff,List.any_eq_true];constructor
 ·rintro⟨x,hx,h⟩;obtain⟨j,hj,rfl⟩:=List.mem_map.1 hx;have h:=of_decide_eq_true h;have:j=k:=(by omega);subst this;have:=(List.mem_filter.1 hj).2;simp at this;exact this.2
 ·intro hu;have:=Gw g hk hu;exact⟨k,List.mem_map.2 ⟨k,List.mem_filter.2 ⟨List.mem_range.2 hk,by simp[hu];omega⟩,rfl⟩,by simp⟩
set_option maxRecDepth 100000
set_option maxHeartbeats 1000000
theorem U4 {l:List UInt8} {c:UInt8} {i:Nat} (h:i<l.length) (hc:by8 l i=c) (hn:∀j,j<i→by8 l j≠c):Lib.indexByte l c=i:=by
 have e:l=l.take i++c::l.drop (i+1):=by
  rw[←hc,kU h,List.getElem_cons_drop];simp
 have hm:c∉l.take i:=by
  intro hm;obtain⟨j,hj,he⟩:=List.mem_iff_getElem.1 hm;rw[List.length_take]at hj;rw[List.getElem_take]at he;exact hn j (by omega) (by rw[kU (by omega),he])
 rw[e,EZ hm,List.length_take];omega
theorem Va {l:List UInt8} {c:UInt8} (hn:∀j,j<l.length→by8 l j≠c):Lib.indexByte l c= -1:=by
 refine wK fun hm=> ?_;obtain⟨j,hj,he⟩:=List.mem_iff_getElem.1 hm;exact hn j hj (by rw[kU hj,he])
theorem Em {c:UInt8} {n:Nat} (h:(c.toNat:Int)=n) (hn:n<256):c=UInt8.ofNat n:=by
 apply UInt8.toNat_inj.1;rw[UInt8.toNat_ofNat_of_lt' (by simpa using hn)];omega
theorem Jy (s:Bs) (hs:s.size≤4611686018427387904):CallsOK Tryz.prog 164 [sV s] (iV (Lib.indexByte (bsL s) 47)) []:=by
 refine aN mixed Tryz.call164 Tryz.func164 rfl (by rw[Tryz.ntmps164];simp) ?_ rfl;rw[Tryz.ntmps164];have hl:(bsL s).length=s.size:=gy s;refine aR fun K' hK=> ?_
 simp;apply hK;clear K' hK;apply aA;refine aR fun K' hK=> ?_
 simp;apply hK;clear K' hK;apply aB
 refine bH (fun t G nx=>t 0=sV s∧∃i:Nat,t 3=iV i∧i≤s.size∧∀j,j<i→by8 (bsL s) j≠47) (fun s' _ _=>match s' 3 with | .v (.int _ n)=>s.size-n.toNat | _=>0) ?_ ?_
 ·exact⟨by simp,0,by simp,by omega,fun j hj=>by omega⟩
 ·rintro t G nx-⟨t0,i,t3,hi,hn⟩;have hw:IntKind.i64.wrap (↑i+1)=((i+1:Nat):Int):=dh (by omega);apply aA;refine aR fun K' hK=> ?_
  simp[t0,t3];apply hK;clear K' hK;refine aC fun A B hA hB=> ?_
  simp;refine⟨fun hi2=>hA ?_,fun hi2=>hB ?_⟩<;>clear hA hB A B<;>(try simp at hi2)<;>(try with_reducible refine aK ?_)
  ·skip;apply aB
   have hcc:pG s i=by8 (bsL s) i:=rfl;generalize hc:by8 (bsL s) i=c at hcc;by_cases a1:(c.toNat:Int)=47
   ·have hc47:c=47:=Em (n:=47) a1 (by decide);refine aR fun K' hK=> ?_
    simp[t0,t3,hi2,hcc,a1];apply hK;clear K' hK;refine aU (by simp) ?_;apply aA;refine aR fun K' hK=> ?_
    simp[t3];apply hK;clear K' hK;apply aJ
    simp[au,aG,Post,aW,res1,bF,bC,aP,bg,bf,okT,okA,ok1,rowOf,Tryz.f164];exact(U4 (by omega) (by rw[hc,hc47]) hn).symm
   ·skip;refine aR fun K' hK=> ?_
    simp[t0,t3,hi2,hcc,a1];apply hK;clear K' hK;refine aVk (by simp) ?_;apply aj
    refine ah ?_;refine aS fun K' hK=> ?_
    simp[t3,hw];apply hK;clear K' hK;refine aj (ay ?_ ?_)
    ·refine⟨by simp[t0],i+1,by simp[hw],by omega,fun j hj=> ?_⟩;rcases Nat.lt_or_ge j i with h | h
     ·exact hn j h
     ·have:j=i:=(by omega);subst this;rw[hc];intro h;exact a1 (by rw[h];rfl)
    ·simp[t3,hw];omega
  ·skip;apply bG
   refine aI (aH ?_);refine aR fun K' hK=> ?_
   simp;apply hK;clear K' hK;apply aF
   simp[au,aG,Post,aW,res1,bF,bC,aP,bg,bf,okT,okA,ok1,rowOf,Tryz.f164];exact(Va fun j hj=>hn j (by omega)).symm
theorem oq (s:Bs) (hs:s.size≤4611686018427387904):CallsOK Tryz.prog 165 [sV s] (bV (ji (bsL s))) []:=by
 refine aN mixed Tryz.call165 Tryz.func165 rfl (by rw[Tryz.ntmps165];simp) ?_ rfl;rw[Tryz.ntmps165];have hl:(bsL s).length=s.size:=gy s;refine aR fun K' hK=> ?_
 simp;apply hK;clear K' hK;apply aA;refine aR fun K' hK=> ?_
 simp;apply hK;clear K' hK;apply aB
 refine bH (fun t G nx=>t 0=sV s∧∃i:Nat,t 3=iV i∧i≤s.size∧(List.range i).all (AP (bsL s))=true) (fun s' _ _=>match s' 3 with | .v (.int _ n)=>s.size-n.toNat | _=>0) ?_ ?_
 ·exact⟨by simp,0,by simp,by omega,by simp⟩
 ·rintro t G nx-⟨t0,i,t3,hi,ht⟩;have hw:IntKind.i64.wrap (↑i+1)=((i+1:Nat):Int):=dh (by omega);apply aA;refine aR fun K' hK=> ?_
  simp[t0,t3];apply hK;clear K' hK;refine aC fun A B hA hB=> ?_
  simp;refine⟨fun hi2=>hA ?_,fun hi2=>hB ?_⟩<;>clear hA hB A B<;>(try simp at hi2)<;>(try with_reducible refine aK ?_)
  ·skip;apply aB
   have hcc:pG s i=by8 (bsL s) i:=rfl;generalize hc:by8 (bsL s) i=c at hcc;refine aR fun K' hK=> ?_
   simp[t0,t3,hi2,hcc];apply hK;clear K' hK;refine fC (fun t' G' nx'=>t' 0=sV s∧t' 3=iV i∧t' 4=.v (.int .u8 c.toNat)∧t' 5=bV (oV c)) ?_ ?_
   ·by_cases a1:(97:Int)≤(c.toNat:Int)
    ·by_cases a2:(c.toNat:Int)≤122
     ·skip;refine aS fun K' hK=> ?_
      simp[a1,a2];apply hK;clear K' hK;with_reducible refine bP ?_
      simp[t0,t3,oV,a1,a2]
     ·have a3:¬(c.toNat:Int)≤57:=(by omega);by_cases a4:(48:Int)≤(c.toNat:Int)
      ·skip;refine aS fun K' hK=> ?_
       simp[a1,a2,a3,a4];apply hK;clear K' hK;with_reducible refine bP ?_
       simp[t0,t3,oV,a1,a2,a3]
      ·omega
    ·by_cases a4:(48:Int)≤(c.toNat:Int)
     ·by_cases a3:(c.toNat:Int)≤57
      ·skip;refine aS fun K' hK=> ?_
       simp[a1,a3,a4];apply hK;clear K' hK;with_reducible refine bP ?_
       simp[t0,t3,oV,a1,a3,a4]
      ·skip;refine aS fun K' hK=> ?_
       simp[a1,a3,a4];apply hK;clear K' hK;with_reducible refine bP ?_
       simp[t0,t3,oV,a1,a3]
     ·skip;refine aS fun K' hK=> ?_
      simp[a1,a4];apply hK;clear K' hK;with_reducible refine bP ?_
      simp[t0,t3,oV,a1,a4]
   rintro u G' nx' ⟨u0,u3,u4,u5⟩;have hbad:AP (bsL s) i=false→ji (bsL s)=false:=fun h=>by
    rw[ji,gY (i:=i) (n:=(bsL s).length) (by omega) h];rfl
   have hgo:∀(h:AP (bsL s) i=true),(List.range (i+1)).all (AP (bsL s))=true:=fun h=>(by rw[jJ,ht,h];rfl);cases hwd:oV c with
   | true=>
    rw[hwd]at u5;refine aR fun K' hK=> ?_
    simp[u5];apply hK;clear K' hK;refine aVk (by simp) ?_;apply aj
    refine ah ?_;refine aS fun K' hK=> ?_
    simp[u3,hw];apply hK;clear K' hK;refine aj (ay ?_ ?_)
    ·exact⟨by simp[u0],i+1,by simp[hw],by omega,hgo (by simp[AP,hc,hwd])⟩
    ·simp[t3,hw];omega
   | false=>
    rw[hwd]at u5;by_cases hi0:i=0
    ·skip;refine aR fun K' hK=> ?_
     simp[u3,u5,hi0];apply hK;clear K' hK;refine aU (by simp) ?_;apply aA;refine aR fun K' hK=> ?_
     simp;apply hK;clear K' hK;apply aJ
     simp[au,aG,Post,aW,res1,bF,bC,aP,bg,bf,okT,okA,ok1,rowOf,Tryz.f165];exact hbad (by subst hi0;simp[AP,hc,hwd])
    ·by_cases b1:(c.toNat:Int)=45
     ·have h45:c=45:=Em (n:=45) b1 (by decide);refine aR fun K' hK=> ?_
      simp[u3,u4,u5,hi0,b1];apply hK;clear K' hK;refine aVk (by simp) ?_;apply aj
      refine ah ?_;refine aS fun K' hK=> ?_
      simp[u3,hw];apply hK;clear K' hK;refine aj (ay ?_ ?_)
      ·exact⟨by simp[u0],i+1,by simp[hw],by omega,hgo (by simp[AP,hc,hi0,O4,h45])⟩
      ·simp[t3,hw];omega
     ·by_cases b2:(c.toNat:Int)=95
      ·have h95:c=95:=Em (n:=95) b2 (by decide);refine aR fun K' hK=> ?_
       simp[u3,u4,u5,hi0,b1,b2];apply hK;clear K' hK;refine aVk (by simp) ?_;apply aj
       refine ah ?_;refine aS fun K' hK=> ?_
       simp[u3,hw];apply hK;clear K' hK;refine aj (ay ?_ ?_)
       ·exact⟨by simp[u0],i+1,by simp[hw],by omega,hgo (by simp[AP,hc,hi0,O4,h95])⟩
       ·simp[t3,hw];omega
      ·by_cases b3:(c.toNat:Int)=46
       ·have h46:c=46:=Em (n:=46) b3 (by decide);refine aR fun K' hK=> ?_
        simp[u3,u4,u5,hi0,b1,b2,b3];apply hK;clear K' hK;refine aVk (by simp) ?_;apply aj
        refine ah ?_;refine aS fun K' hK=> ?_
        simp[u3,hw];apply hK;clear K' hK;refine aj (ay ?_ ?_)
        ·exact⟨by simp[u0],i+1,by simp[hw],by omega,hgo (by simp[AP,hc,hi0,O4,h46])⟩
        ·simp[t3,hw];omega
       ·skip;refine aR fun K' hK=> ?_
        simp[u3,u4,u5,hi0,b1,b2,b3];apply hK;clear K' hK;refine aU (by simp) ?_;apply aA;refine aR fun K' hK=> ?_
        simp;apply hK;clear K' hK;apply aJ
        simp[au,aG,Post,aW,res1,bF,bC,aP,bg,bf,okT,okA,ok1,rowOf,Tryz.f165];refine hbad ?_;have h1:¬c=45:=fun h=>b1 (by rw[h];rfl);have h2:¬c=95:=fun h=>b2 (by rw[h];rfl);have h3:¬c=46:=fun h=>b3 (by rw[h];rfl);simp[AP,hc,hwd,O4,h1,h2,h3]
  ·skip;apply bG
   refine aI (aH ?_);refine aR fun K' hK=> ?_
   simp[t0];apply hK;clear K' hK;apply aF
   simp[au,aG,Post,aW,res1,bF,bC,aP,bg,bf,okT,okA,ok1,rowOf,Tryz.f165];have:i=(bsL s).length:=(by omega);subst this;rw[ji,ht,Bool.true_and];simp[gK]
theorem FP (s:Bs) (a b:Nat):bsL (s.extract a b)=((bsL s).take b).drop a:=by
 rw[←pI,Lib.extract_toList,List.drop_take];rfl
theorem lF (s:Bs) (hs:s.size≤4611686018427387904):CallsOK Tryz.prog 127 [sV s] (bV (jq (bsL s))) []:=by
 refine aN mixed Tryz.call127 Tryz.func127 rfl (by rw[Tryz.ntmps127];simp) ?_ rfl;rw[Tryz.ntmps127];have hl:(bsL s).length=s.size:=gy s;refine aR fun K' hK=> ?_
 simp;apply hK;clear K' hK;by_cases h40:(40:Int)<s.size
 ·refine aA ?_;refine aR fun K' hK=> ?_
  simp[h40];apply hK;clear K' hK;refine aX (by simp) ?_;apply aA;refine aR fun K' hK=> ?_
  simp;apply hK;clear K' hK;apply aJ
  simp[au,aG,Post,aW,res1,bF,bC,aP,bg,bf,okT,okA,ok1,rowOf,Tryz.f127];rw[jq,if_pos (.inl (by omega))]
 ·by_cases hnm:s=⟨#[110,111,100,101,95,109,111,100,117,108,101,115]⟩
  ·refine aA ?_;refine aR fun K' hK=> ?_
   simp[h40,hnm];apply hK;clear K' hK;refine aX (by simp) ?_;apply aA;refine aR fun K' hK=> ?_
   simp;apply hK;clear K' hK;apply aJ
   simp[au,aG,Post,aW,res1,bF,bC,aP,bg,bf,okT,okA,ok1,rowOf,Tryz.f127];rw[jq,if_pos (.inr (by rw[hnm];rfl))]
  ·have hnl:¬(40<(bsL s).length∨bsL s=RF):=by
    rintro(h | h)
    ·omega
    ·exact hnm (nD h)
   apply aA;refine aR fun K' hK=> ?_
   simp[h40,hnm];apply hK;clear K' hK;refine aYk (by simp) ?_;refine aR fun K' hK=> ?_
   simp;refine ak (Jy s hs) rfl (by first | rfl | (simp;done) | (simp;rfl) | (simp;exact⟨rfl,rfl⟩)) ?_;simp;apply hK;clear K' hK;by_cases he:s=⟨#[]⟩
   ·refine aA ?_;refine aR fun K' hK=> ?_
    simp[he];apply hK;clear K' hK;refine aX (by simp) ?_;apply aA;refine aR fun K' hK=> ?_
    simp;refine ak (oq ⟨#[]⟩ (by decide)) rfl (by first | rfl | (simp;done) | (simp;rfl) | (simp;exact⟨rfl,rfl⟩)) ?_;simp;apply hK;clear K' hK;apply aJ
    simp[au,aG,Post,aW,res1,bF,bC,aP,bg,bf,okT,okA,ok1,rowOf,Tryz.f127];rw[he];decide+kernel
   ·have hpos:0<s.size:=by
     rcases Nat.eq_zero_or_pos s.size with h | h
     ·exact absurd ((gK s).2 (List.eq_nil_of_length_eq_zero (by omega))) he
     ·exact h
    have hcc:pG s 0=by8 (bsL s) 0:=rfl;obtain⟨b,r,hL⟩:∃b r,bsL s=b::r:=List.exists_cons_of_ne_nil (List.ne_nil_of_length_pos (by omega))
    ·skip;have hb:by8 (bsL s) 0=b:=(by rw[hL];rfl);rw[hb]at hcc;by_cases h64:(b.toNat:Int)=64
     ·have hb64:b=64:=Em (n:=64) h64 (by decide);subst hb64;apply aA;refine aR fun K' hK=> ?_
      simp[he,hpos,hcc,h64];apply hK;clear K' hK;refine aYk (by simp) ?_
      have hgd:jq (64::r)=((Lib.cut r [47]).2.2&&(ji (Lib.cut r [47]).1&&ji (Lib.cut r [47]).2.1)):=by
       rw[jq,if_neg (by rw[←hL];exact hnl),if_neg (by simp[Lib.hasPrefix,List.isPrefixOf])];rw[show Lib.trimPrefix (64::r) [64]=r from RV (p:=[64])]
      rcases Qh r 47 with⟨hno,hc⟩ | ⟨x,y,hx,hr,hc⟩
      ·have hk:Lib.indexByte (bsL s) 47= -1:=(by rw[hL];exact wK (by simp[hno]));refine aR fun K' hK=> ?_
       simp[hk];apply hK;clear K' hK;apply aF
       simp[au,aG,Post,aW,res1,bF,bC,aP,bg,bf,okT,okA,ok1,rowOf,Tryz.f127];rw[hL,hgd,hc];simp
      ·have hk:Lib.indexByte (bsL s) 47=(x.length+1:Nat):=by
        rw[hL,hr];exact EZ (a:=64::x) (by simp[hx])
       have e1:bsL (s.extract 1 (x.length+1))=x:=(by rw[FP,hL,hr];simp);have e2:bsL (s.extract (x.length+1+1) s.size)=y:=by
        rw[FP,←hl,List.take_length,hL,hr];simp
       have hsz:x.length+1+1≤s.size:=(by rw[←hl,hL,hr];simp);have hw1:IntKind.i64.wrap ((x.length:Int)+1+1)=((x.length+1+1:Nat):Int):=(by rw[wrap64 (by omega) (by omega)];omega);have p1:=oq (s.extract 1 (x.length+1)) (by rw[←gy,e1];omega);have p2:=oq (s.extract (x.length+1+1) s.size) (by rw[←gy,e2];rw[hL,hr]at hl;simp at hl;omega);rw[e1]at p1;rw[e2]at p2;have a1:(0:Int)<((x.length+1:Nat):Int):=(by omega);have b1:(0:Int)≤(x.length:Int)+1:=(by omega);have b2:x.length+1≤s.size:=(by omega);have b3:(0:Int)≤(x.length:Int)+1+1:=(by omega);have b4:(x.length:Int)+1+1≤s.size:=(by omega);have b5:((x.length:Int)+1+1).toNat=x.length+1+1:=(by omega);refine aR fun K' hK=> ?_
       simp[hk,a1,je,b1,b2];refine ak p1 rfl (by first | rfl | (simp;done) | (simp;rfl) | (simp;exact⟨rfl,rfl⟩)) ?_;cases hpx:ji x with
       | false=>
        simp;apply hK;clear K' hK;apply aF
        simp[au,aG,Post,aW,res1,bF,bC,aP,bg,bf,okT,okA,ok1,rowOf,Tryz.f127];rw[hL,hgd,hc];simp[hpx]
       | true=>
        simp[hk,hw1,b3,b4,b5,hsz,je];refine ak p2 rfl (by first | rfl | (simp;done) | (simp;rfl) | (simp;exact⟨rfl,rfl⟩)) ?_;simp;apply hK;clear K' hK;apply aF
        simp[au,aG,Post,aW,res1,bF,bC,aP,bg,bf,okT,okA,ok1,rowOf,Tryz.f127];rw[hL,hgd,hc];simp[hpx]
     ·have h64':¬b=64:=fun h=>h64 (by rw[h];rfl);apply aA;refine aR fun K' hK=> ?_
      simp[he,hpos,hcc,h64];apply hK;clear K' hK;refine aX (by simp) ?_;apply aA;refine aR fun K' hK=> ?_
      simp;refine ak (oq s hs) rfl (by first | rfl | (simp;done) | (simp;rfl) | (simp;exact⟨rfl,rfl⟩)) ?_;simp;apply hK;clear K' hK;apply aJ
      simp[au,aG,Post,aW,res1,bF,bC,aP,bg,bf,okT,okA,ok1,rowOf,Tryz.f127];have hp:Lib.hasPrefix (b::r) [64]=false:=by
       have:((64:UInt8)==b)=false:=(by simpa using fun h=>h64' h.symm);simp[Lib.hasPrefix,List.isPrefixOf,this]
      rw[jq,if_neg hnl,hL,hp,if_pos rfl]
set_option maxRecDepth 100000
set_option maxHeartbeats 1000000
theorem zG (n:Int):CallsOK Tryz.prog 166 [iV n] (bV (inR n)) []:=by
 refine aN mixed Tryz.call166 Tryz.func166 rfl (by rw[Tryz.ntmps166];simp) ?_ rfl;rw[Tryz.ntmps166];refine aR fun K' hK=> ?_
 simp;apply hK;clear K' hK;by_cases h:0≤n
 ·skip;refine aR fun K' hK=> ?_
  simp[h];apply hK;clear K' hK;apply aF
  simp[au,aG,Post,aW,res1,bF,bC,aP,bg,bf,okT,okA,ok1,rowOf,Tryz.f166];simp[inR,h]
 ·skip;refine aR fun K' hK=> ?_
  simp[h];apply hK;clear K' hK;apply aF
  simp[au,aG,Post,aW,res1,bF,bC,aP,bg,bf,okT,okA,ok1,rowOf,Tryz.f166];simp[inR,h]
def xB (c:UInt8):Bool:=decide ((48:Int)≤(c.toNat:Int))&&decide ((c.toNat:Int)≤57)
theorem RQ:∀i:_root_.Fin 256,QV.contains (UInt8.ofNat i)=xB (UInt8.ofNat i):=by decide+kernel
theorem TQ (c:UInt8):QV.contains c=xB c:=by
 have:=RQ ⟨c.toNat,c.toNat_lt⟩;simpa using this
theorem wO {α:Type} {p:α→Bool} :∀ {l:List α},l.dropWhile p=[]↔l.all p=true
 | []=>by simp
 | a::l=>by
  rw[List.dropWhile_cons,List.all_cons];cases h:p a with
  | true=>simp[wO (p:=p) (l:=l)]
  | false=>simp
theorem BO {α:Type} {p:α→Bool} :∀ {l:List α},(l.dropWhile p).all p=true→l.all p=true
 | [],_=>rfl
 | a::l,h=>by
  rw[List.dropWhile_cons]at h;rw[List.all_cons];cases hp:p a with
  | true=>
   rw[hp,if_pos rfl]at h;rw[BO h];rfl
  | false=>rw[hp,if_neg (by simp),List.all_cons,hp]at h;simp at h
theorem OI (l:List UInt8):Lib.trimS l QV=[]↔l.all xB=true:=by
 have e:(fun c=>QV.contains c)=xB:=funext TQ;unfold Lib.trimS Lib.trimLeftS Lib.trimRightS;rw[e,wO,List.all_reverse];constructor
 ·intro h;have:=BO h
  rwa [List.all_reverse]at this
 ·intro h;have h2:l.reverse.dropWhile xB=[]:=wO.2 (by rw[List.all_reverse];exact h);rw[h2];rfl
theorem wH (l:List UInt8):kH l=(l.all xB&& !decide (l=[])):=by
 unfold kH;rw[Bool.eq_iff_iff];simp only[Bool.and_eq_true,decide_eq_true_eq,OI];exact⟨fun⟨a,b⟩=>⟨b,a⟩,fun⟨a,b⟩=>⟨b,a⟩⟩
theorem Um {l:List UInt8} {p:UInt8→Bool} (h:∀i,i<l.length→p (by8 l i)=true):l.all p=true:=by
 rw[List.all_eq_true];intro x hx;obtain⟨i,hi,rfl⟩:=List.mem_iff_getElem.1 hx;rw[←kU hi];exact h i hi
theorem NK {l:List UInt8} {p:UInt8→Bool} {i:Nat} (hi:i<l.length) (h:p (by8 l i)=false):l.all p=false:=by
 rw[List.all_eq_false];exact⟨by8 l i,by rw[kU hi];exact List.getElem_mem hi,by simp[h]⟩
theorem iT (s:Bs) (hs:s.size≤4611686018427387904):CallsOK Tryz.prog 204 [sV s] (bV (kH (bsL s))) []:=by
 refine aN mixed Tryz.call204 Tryz.func204 rfl (by rw[Tryz.ntmps204];simp) ?_ rfl;rw[Tryz.ntmps204,wH];have hl:(bsL s).length=s.size:=gy s;refine aR fun K' hK=> ?_
 simp;apply hK;clear K' hK;apply aA;refine aR fun K' hK=> ?_
 simp;apply hK;clear K' hK;apply aB
 refine bH (fun t G nx=>t 0=sV s∧∃i:Nat,t 3=iV i∧i≤s.size∧∀j,j<i→xB (by8 (bsL s) j)=true) (fun s' _ _=>match s' 3 with | .v (.int _ n)=>s.size-n.toNat | _=>0) ?_ ?_
 ·exact⟨by simp,0,by simp,by omega,fun j hj=>by omega⟩
 ·rintro t G nx-⟨t0,i,t3,hi,hn⟩;have hw:IntKind.i64.wrap (↑i+1)=((i+1:Nat):Int):=dh (by omega);apply aA;refine aR fun K' hK=> ?_
  simp[t0,t3];apply hK;clear K' hK;refine aC fun A B hA hB=> ?_
  simp;refine⟨fun hi2=>hA ?_,fun hi2=>hB ?_⟩<;>clear hA hB A B<;>(try simp at hi2)<;>(try with_reducible refine aK ?_)
  ·skip;apply aB
   have hcc:pG s i=by8 (bsL s) i:=rfl;generalize hc:by8 (bsL s) i=c at hcc;by_cases a1:(c.toNat:Int)<48
   ·skip;refine aR fun K' hK=> ?_
    simp[t0,t3,hi2,hcc,a1];apply hK;clear K' hK;refine aU (by simp) ?_;apply aA;refine aR fun K' hK=> ?_
    simp;apply hK;clear K' hK;apply aJ
    simp[au,aG,Post,aW,res1,bF,bC,aP,bg,bf,okT,okA,ok1,rowOf,Tryz.f204];intro h;have h:=List.all_eq_true.2 h;rw[NK (p:=xB) (i:=i) (by omega) (by rw[hc];simp[xB];omega)]at h;cases h
   ·by_cases a2:(57:Int)<c.toNat
    ·skip;refine aR fun K' hK=> ?_
     simp[t0,t3,hi2,hcc,a1,a2];apply hK;clear K' hK;refine aU (by simp) ?_;apply aA;refine aR fun K' hK=> ?_
     simp;apply hK;clear K' hK;apply aJ
     simp[au,aG,Post,aW,res1,bF,bC,aP,bg,bf,okT,okA,ok1,rowOf,Tryz.f204];intro h;have h:=List.all_eq_true.2 h;rw[NK (p:=xB) (i:=i) (by omega) (by rw[hc];simp[xB];omega)]at h;cases h
    ·skip;refine aR fun K' hK=> ?_
     simp[t0,t3,hi2,hcc,a1,a2];apply hK;clear K' hK;refine aVk (by simp) ?_;apply aj
     refine ah ?_;refine aS fun K' hK=> ?_
     simp[t3,hw];apply hK;clear K' hK;refine aj (ay ?_ ?_)
     ·refine⟨by simp[t0],i+1,by simp[hw],by omega,fun j hj=> ?_⟩;rcases Nat.lt_or_ge j i with h | h
      ·exact hn j h
      ·have:j=i:=(by omega);subst this;rw[hc];simp[xB];omega
     ·simp[t3,hw];omega
  ·skip;apply bG
   refine aI (aH ?_);refine aR fun K' hK=> ?_
   simp[t0];apply hK;clear K' hK;apply aF
   simp[au,aG,Post,aW,res1,bF,bC,aP,bg,bf,okT,okA,ok1,rowOf,Tryz.f204];have hall:=Um (p:=xB) (l:=bsL s) (fun j hj=>hn j (by omega));rw[hall];simp[gK]
theorem TA {n:Int} (h0:0≤n) (h1:n<256):IntKind.u8.wrap n=n:=by
 simp[IntKind.wrap,IntKind.signed,IntKind.bits];omega
def JV (l:List UInt8):Int:=l.foldl (fun n c=>10*n+((c.toNat:Int)-48)) 0
def H9 (l:List UInt8):Int:=if jm l then JV l else-1
theorem DN {l:List UInt8} {i:Nat} (h:i<l.length):JV (l.take (i+1))=10*JV (l.take i)+((by8 l i).toNat-48):=by
 unfold JV;rw[List.take_add_one,List.getElem?_eq_getElem h,List.foldl_append,kU h];rfl
theorem DV {l:List UInt8} (h:l.all xB=true):∀i,i≤l.length→0≤JV (l.take i)∧JV (l.take i)≤10^i-1
 | 0,_=>by simp[JV]
 | i+1,hi=>by
  have ih:=DV h i (by omega);have hd:xB (by8 l i)=true:=(by rw[kU (by omega)];exact List.all_eq_true.1 h _ (List.getElem_mem _));simp[xB]at hd;rw[DN (by omega),Int.pow_succ];omega
theorem RN {l:List UInt8} :decide (0≤H9 l)=jm l:=by
 unfold H9;cases h:jm l with
 | false=>rfl
 | true=>
  have hp:kH l=true:=by
   unfold jm at h;rw[Bool.and_eq_true]at h;exact h.1
  rw[wH,Bool.and_eq_true]at hp;have:=(DV hp.1 l.length (Nat.le_refl _)).1;rw[List.take_length]at this;simpa using this
theorem o9 (s:Bs) (hs:s.size≤4611686018427387904):CallsOK Tryz.prog 205 [sV s] (iV (H9 (bsL s))) []:=by
 refine aN mixed Tryz.call205 Tryz.func205 rfl (by rw[Tryz.ntmps205];simp) ?_ rfl;rw[Tryz.ntmps205];have hl:(bsL s).length=s.size:=gy s;have hbad:jm (bsL s)=false→H9 (bsL s)= -1:=fun h=>(by rw[H9,h];rfl);refine aR fun K' hK=> ?_
 simp;apply hK;clear K' hK;apply aA
 refine fC (fun u G nx=>u 0=sV s∧u 22=bV (!jm (bsL s))) ?_ ?_
 ·skip;refine aS fun K' hK=> ?_
  simp;refine ak (iT s hs) rfl (by first | rfl | (simp;done) | (simp;rfl) | (simp;exact⟨rfl,rfl⟩)) ?_;cases hp:kH (bsL s)with
  | false=>
   simp;apply hK;clear K' hK;with_reducible refine bP ?_
   simp[jm,hp]
  | true=>
   have hpe:=hp;rw[wH,Bool.and_eq_true]at hpe;have hne:bsL s≠[]:=(by simpa using hpe.2);have hpos:0<s.size:=(by have:=List.length_pos_iff.2 hne;omega);have hcc:pG s 0=by8 (bsL s) 0:=rfl;generalize hc:by8 (bsL s) 0=c at hcc;by_cases h6:(6:Int)<s.size
   ·simp[h6];apply hK;clear K' hK;with_reducible refine bP ?_
    simp[jm];exact .inr (.inl (by omega))
   ·have h6':(bsL s).length≤6:=(by omega);by_cases z1:(c.toNat:Int)=48
    ·have hc48:c=48:=Em (n:=48) z1 (by decide);by_cases z2:(1:Int)<s.size
     ·simp[h6,hpos,hcc,z1,z2];apply hK;clear K' hK;with_reducible refine bP ?_
      have:¬bsL s=[48]:=fun h=>(by rw[h]at hl;simp at hl;omega);simp[jm,hc,hc48,this]
     ·simp[h6,hpos,hcc,z1,z2];apply hK;clear K' hK;with_reducible refine bP ?_
      have h1:(bsL s).length=1:=(by omega);obtain⟨x,hx⟩:=List.length_eq_one_iff.1 h1;have:bsL s=[48]:=by
       rw[hx]at hc⊢;have:x=c:=hc;rw[this,hc48]
      simp[jm,hp,this];rw[this]at hp;exact hp
    ·have z1':¬c=48:=fun h=>z1 (by rw[h];rfl);simp[h6,hpos,hcc,z1];apply hK;clear K' hK;with_reducible refine bP ?_
     simp[jm,hp,hc,z1',h6']
 rintro u G nx ⟨u0,u22⟩;cases hok:jm (bsL s)with
 | false=>
  rw[hok]at u22;refine aX (by simp[u22]) ?_;apply aA;refine aR fun K' hK=> ?_
  simp;apply hK;clear K' hK;apply aJ
  simp[au,aG,Post,aW,res1,bF,bC,aP,bg,bf,okT,okA,ok1,rowOf,Tryz.f205];exact(hbad hok).symm
 | true=>
  rw[hok]at u22;have hok2:=hok;unfold jm at hok2;rw[Bool.and_eq_true,Bool.and_eq_true]at hok2;obtain⟨hp,h6,_⟩:=hok2;have h6:(bsL s).length≤6:=of_decide_eq_true h6;rw[wH,Bool.and_eq_true]at hp;have hfin:H9 (bsL s)=JV (bsL s):=(by rw[H9,hok];rfl);rw[hfin];refine aYk (by simp[u22]) ?_;refine aR fun K' hK=> ?_
  simp;apply hK;clear K' hK;apply aA;refine aR fun K' hK=> ?_
  simp;apply hK;clear K' hK;apply aB
  refine bH (fun t G nx=>t 0=sV s∧∃i:Nat,t 4=iV i∧i≤s.size∧t 3=iV (JV ((bsL s).take i))) (fun s' _ _=>match s' 4 with | .v (.int _ n)=>s.size-n.toNat | _=>0) ?_ ?_
  ·exact⟨by simp[u0],0,by simp,by omega,by simp[JV]⟩
  ·rintro t G nx-⟨t0,i,t4,hi,t3⟩;have hw:IntKind.i64.wrap (↑i+1)=((i+1:Nat):Int):=dh (by omega);apply aA;refine aR fun K' hK=> ?_
   simp[t0,t4];apply hK;clear K' hK;refine aC fun A B hA hB=> ?_
   simp;refine⟨fun hi2=>hA ?_,fun hi2=>hB ?_⟩<;>clear hA hB A B<;>(try simp at hi2)<;>(try with_reducible refine aK ?_)
   ·have hcc:pG s i=by8 (bsL s) i:=rfl;have hst:=DN (l:=bsL s) (i:=i) (by omega);have hnn:=DV hp.1 i (by omega);have hpw:(10:Int)^i≤10^6:=by
     have:(10:Nat)^i≤10^6:=Nat.pow_le_pow_right (by decide) (by omega)
     exact_mod_cast this
    have hpw6:(10:Int)^6=1000000:=(by decide);have hd:xB (by8 (bsL s) i)=true:=(by rw[kU (by omega)];exact List.all_eq_true.1 hp.1 _ (List.getElem_mem _));generalize hc:by8 (bsL s) i=c at hcc hst hd;generalize JV ((bsL s).take i)=v at hst hnn t3;simp[xB]at hd;have w1:IntKind.u8.wrap ((c.toNat:Int)-48)=(c.toNat:Int)-48:=TA (by omega) (by omega);have w2:IntKind.i64.wrap ((c.toNat:Int)-48)=(c.toNat:Int)-48:=wrap64 (by omega) (by omega);have w3:IntKind.i64.wrap (10*v)=10*v:=wrap64 (by omega) (by omega);have w4:IntKind.i64.wrap (10*v+((c.toNat:Int)-48))=10*v+((c.toNat:Int)-48):=wrap64 (by omega) (by omega);apply aB;refine aS fun K' hK=> ?_
    simp[t0,t3,t4,hi2,hcc,w1,w2,w3,w4];apply hK;clear K' hK;apply aj
    refine ah ?_;refine aS fun K' hK=> ?_
    simp[t4,hw];apply hK;clear K' hK;refine aj (ay ?_ ?_)
    ·exact⟨by simp[t0],i+1,by simp[hw],by omega,by rw[hst];simp[w1,w2,w3,w4]⟩
    ·simp[t4,hw];omega
   ·skip;apply bG
    refine aI (aH ?_);have:i=(bsL s).length:=(by omega);subst this;rw[List.take_length]at t3;refine aR fun K' hK=> ?_
    simp[t3];apply hK;clear K' hK;apply aF
    simp[au,aG,Post,aW,res1,bF,bC,aP,bg,bf,okT,okA,ok1,rowOf,Tryz.f205]
theorem O7:∀i:_root_.Fin 256,mG (UInt8.ofNat i)= !((decide (((UInt8.ofNat i).toNat:Int)<97) || decide ((122:Int)<((UInt8.ofNat i).toNat:Int)))&&((decide (((UInt8.ofNat i).toNat:Int)<65) || decide ((90:Int)<((UInt8.ofNat i).toNat:Int)))&&((decide (((UInt8.ofNat i).toNat:Int)<48) || decide ((57:Int)<((UInt8.ofNat i).toNat:Int)))&& !decide (((UInt8.ofNat i).toNat:Int)=45)))):=by decide+kernel
theorem kR (c:UInt8):mG c= !((decide ((c.toNat:Int)<97) || decide ((122:Int)<(c.toNat:Int)))&&((decide ((c.toNat:Int)<65) || decide ((90:Int)<(c.toNat:Int)))&&((decide ((c.toNat:Int)<48) || decide ((57:Int)<(c.toNat:Int)))&& !decide ((c.toNat:Int)=45)))):=by
 have:=O7 ⟨c.toNat,c.toNat_lt⟩
 rwa [UInt8.ofNat_toNat]at this
theorem TS {l:List UInt8} :(kH l==jm l)=(!kH l || jm l):=by
 cases h:jm l with
 | false=>simp
 | true=>
  have hp:kH l=true:=by
   unfold jm at h;rw[Bool.and_eq_true]at h;exact h.1
  simp[hp]
theorem NG (s:Bs) (hs:s.size≤4611686018427387904):CallsOK Tryz.prog 168 [sV s] (bV (iR (bsL s))) []:=by
 refine aN mixed Tryz.call168 Tryz.func168 rfl (by rw[Tryz.ntmps168];simp) ?_ rfl;rw[Tryz.ntmps168];have hl:(bsL s).length=s.size:=gy s;refine aR fun K' hK=> ?_
 simp;apply hK;clear K' hK;by_cases h1:(s.size:Int)<1
 ·refine aA ?_;refine aR fun K' hK=> ?_
  simp[h1];apply hK;clear K' hK;refine aX (by simp) ?_;apply aA;refine aR fun K' hK=> ?_
  simp;apply hK;clear K' hK;apply aJ
  simp[au,aG,Post,aW,res1,bF,bC,aP,bg,bf,okT,okA,ok1,rowOf,Tryz.f168];have:bsL s=[]:=List.eq_nil_of_length_eq_zero (by omega);simp[iR,this]
 by_cases h10:(10:Int)<s.size
 ·refine aA ?_;refine aR fun K' hK=> ?_
  simp[h1,h10];apply hK;clear K' hK;refine aX (by simp) ?_;apply aA;refine aR fun K' hK=> ?_
  simp;apply hK;clear K' hK;apply aJ
  simp[au,aG,Post,aW,res1,bF,bC,aP,bg,bf,okT,okA,ok1,rowOf,Tryz.f168];have:¬(bsL s).length≤10:=(by omega);simp[iR,this]
 have hne:¬bsL s=[]:=fun h=>(by rw[h]at hl;simp at hl;omega);have hle:(bsL s).length≤10:=(by omega);apply aA;refine aR fun K' hK=> ?_
 simp[h1,h10];apply hK;clear K' hK;refine aYk (by simp) ?_;apply aA;refine aR fun K' hK=> ?_
 simp;apply hK;clear K' hK;apply aB
 refine bH (fun t G nx=>t 0=sV s∧∃i:Nat,t 3=iV i∧i≤s.size∧(List.range i).all (fun i=>mG (by8 (bsL s) i))=true) (fun s' _ _=>match s' 3 with | .v (.int _ n)=>s.size-n.toNat | _=>0) ?_ ?_
 ·exact⟨by simp,0,by simp,by omega,by simp⟩
 ·rintro t G nx-⟨t0,i,t3,hi,ht⟩;have hw:IntKind.i64.wrap (↑i+1)=((i+1:Nat):Int):=dh (by omega);apply aA;refine aR fun K' hK=> ?_
  simp[t0,t3];apply hK;clear K' hK;refine aC fun A B hA hB=> ?_
  simp;refine⟨fun hi2=>hA ?_,fun hi2=>hB ?_⟩<;>clear hA hB A B<;>(try simp at hi2)<;>(try with_reducible refine aK ?_)
  ·skip;apply aB
   have hcc:pG s i=by8 (bsL s) i:=rfl;generalize hc:by8 (bsL s) i=c at hcc;refine aR fun K' hK=> ?_
   simp[t0,t3,hi2,hcc];apply hK;clear K' hK;refine fC (fun t' G' nx'=>t' 0=sV s∧t' 3=iV i∧t' 47=bV (!mG c)) ?_ ?_
   ·by_cases a1:(c.toNat:Int)<97
    ·by_cases a3:(c.toNat:Int)<65
     ·by_cases a5:(c.toNat:Int)<48
      ·by_cases a7:(c.toNat:Int)=45
       ·skip;refine aS fun K' hK=> ?_
        simp[a1,a3,a5,a7];apply hK;clear K' hK;with_reducible refine bP ?_
        simp[t0,t3,kR,a1,a3,a5,a7]
       ·skip;refine aS fun K' hK=> ?_
        simp[a1,a3,a5,a7];apply hK;clear K' hK;with_reducible refine bP ?_
        simp[t0,t3,kR,a1,a3,a5,a7]
      ·by_cases a6:(57:Int)<c.toNat
       ·have a7:¬(c.toNat:Int)=45:=(by omega);refine aS fun K' hK=> ?_
        simp[a1,a3,a5,a6,a7];apply hK;clear K' hK;with_reducible refine bP ?_
        simp[t0,t3,kR,a1,a3,a5,a6,a7]
       ·skip;refine aS fun K' hK=> ?_
        simp[a1,a3,a5,a6];apply hK;clear K' hK;with_reducible refine bP ?_
        simp[t0,t3,kR,a1,a3,a5,a6]
     ·by_cases a4:(90:Int)<c.toNat
      ·have a5:¬(c.toNat:Int)<48:=(by omega);have a6:(57:Int)<c.toNat:=(by omega);have a7:¬(c.toNat:Int)=45:=(by omega);refine aS fun K' hK=> ?_
       simp[a1,a3,a4,a5,a6,a7];apply hK;clear K' hK;with_reducible refine bP ?_
       simp[t0,t3,kR,a1,a3,a4,a5,a6,a7]
      ·skip;refine aS fun K' hK=> ?_
       simp[a1,a3,a4];apply hK;clear K' hK;with_reducible refine bP ?_
       simp[t0,t3,kR,a1,a3,a4]
    ·by_cases a2:(122:Int)<c.toNat
     ·have a3:¬(c.toNat:Int)<65:=(by omega);have a4:(90:Int)<c.toNat:=(by omega);have a5:¬(c.toNat:Int)<48:=(by omega);have a6:(57:Int)<c.toNat:=(by omega);have a7:¬(c.toNat:Int)=45:=(by omega);refine aS fun K' hK=> ?_
      simp[a1,a2,a3,a4,a5,a6,a7];apply hK;clear K' hK;with_reducible refine bP ?_
      simp[t0,t3,kR,a1,a2,a3,a4,a5,a6,a7]
     ·skip;refine aS fun K' hK=> ?_
      simp[a1,a2];apply hK;clear K' hK;with_reducible refine bP ?_
      simp[t0,t3,kR,a1,a2]
   rintro u G' nx' ⟨u0,u3,u47⟩;cases hp:mG c with
   | true=>
    rw[hp]at u47;refine aVk (by simp[u47]) ?_;apply aj
    refine ah ?_;refine aS fun K' hK=> ?_
    simp[u3,hw];apply hK;clear K' hK;refine aj (ay ?_ ?_)
    ·exact⟨by simp[u0],i+1,by simp[hw],by omega,by rw[jJ,ht,hc,hp];rfl⟩
    ·simp[t3,hw];omega
   | false=>
    rw[hp]at u47;refine aU (by simp[u47]) ?_;apply aA;refine aR fun K' hK=> ?_
    simp;apply hK;clear K' hK;apply aJ
    simp[au,aG,Post,aW,res1,bF,bC,aP,bg,bf,okT,okA,ok1,rowOf,Tryz.f168];rw[iR,gY (i:=i) (by omega) (by rw[hc];exact hp)];simp
  ·skip;apply bG
   refine aI (aH ?_);have:i=(bsL s).length:=(by omega);subst this;have hfin:iR (bsL s)=(!kH (bsL s) || jm (bsL s)):=(by rw[iR,ht,TS];simp[hne,hle]);rw[hfin];refine aR fun K' hK=> ?_
   simp[t0];refine ak (iT s hs) rfl (by first | rfl | (simp;done) | (simp;rfl) | (simp;exact⟨rfl,rfl⟩)) ?_;cases hp:kH (bsL s)with
   | false=>
    simp;apply hK;clear K' hK;apply aF
    simp[au,aG,Post,aW,res1,bF,bC,aP,bg,bf,okT,okA,ok1,rowOf,Tryz.f168];exact .inl hp
   | true=>
    have hnn:=RN (l:=bsL s);simp[t0];refine ak (o9 s hs) rfl (by first | rfl | (simp;done) | (simp;rfl) | (simp;exact⟨rfl,rfl⟩)) ?_;simp[hnn];apply hK;clear K' hK;apply aF
    simp[au,aG,Post,aW,res1,bF,bC,aP,bg,bf,okT,okA,ok1,rowOf,Tryz.f168];intro h;rw[hp]at h;cases h
set_option maxRecDepth 100000
set_option maxHeartbeats 1000000
def spl:List UInt8→List (List UInt8)
 | []=>[[]]
 | b::l=>if b=46 then[]::spl l else match spl l with
  | []=>[[b]]
  | p::ps=>(b::p)::ps
theorem QX:∀l:List UInt8,spl l≠[]
 | []=>by simp[spl]
 | b::l=>by
  rw[spl];split
  ·simp
  ·cases spl l<;>simp
theorem sJ:∀ {a:List UInt8},(46:UInt8)∉a→spl a=[a]
 | [],_=>rfl
 | b::a,h=>by
  have h1:¬b=46:=fun e=>h (by simp[e]);rw[spl,if_neg h1,sJ (a:=a) (fun e=>h (List.mem_cons_of_mem _ e))]
theorem BU:∀ {a r:List UInt8},(46:UInt8)∉a→spl (a++46::r)=a::spl r
 | [],r,_=>by simp[spl]
 | b::a,r,h=>by
  have h1:¬b=46:=fun e=>h (by simp[e]);rw[List.cons_append,spl,if_neg h1,BU (a:=a) (fun e=>h (List.mem_cons_of_mem _ e))]
theorem EU:∀(k:Nat) (l:List UInt8),pW k l=(decide ((spl l).length≤k)&&(spl l).all iR)
 | 0,l=>by
  have:=List.length_pos_iff.2 (QX l);rw[pW];have h:¬(spl l).length≤0:=(by omega);simp[h]
 | k+1,l=>by
  rw[pW];by_cases hm:(46:UInt8)∈l
  ·obtain⟨a,r,h1,rfl⟩:=qV hm;rw[EZ h1,if_neg (by omega),BU h1,Int.toNat_natCast,List.take_left',show(a++46::r).drop (a.length+1)=r by simp,EU k r]
   ·simp only[List.length_cons,List.all_cons,Nat.add_le_add_iff_right];cases iR a<;>simp
   ·rfl
  ·rw[wK hm,if_pos (by omega),sJ hm];simp
theorem drop_at {l:List UInt8} {f i:Nat} (hf:f≤i) (hi:i<l.length) (h:by8 l i=46):l.drop f=((l.take i).drop f)++46::l.drop (i+1):=by
 have e:l=l.take i++46::l.drop (i+1):=by
  rw[←h,kU hi,List.getElem_cons_drop];simp
 conv=>lhs;rw[e]
 rw[List.drop_append_of_le_length (by rw[List.length_take];omega)]
theorem UE {l:List UInt8} {f i:Nat} (hi:i≤l.length) (h:∀j,f≤j→j<i→by8 l j≠46):(46:UInt8)∉(l.take i).drop f:=by
 intro hm;obtain⟨j,hj,he⟩:=List.mem_iff_getElem.1 hm;rw[List.length_drop,List.length_take]at hj;rw[List.getElem_drop,List.getElem_take]at he;exact h (f+j) (by omega) (by omega) (by rw[kU (by omega),he])
def OX (l:List UInt8) (out:List (List UInt8)) (f i:Nat):Prop:=
 (i≤l.length∧f≤i∧(∀j,f≤j→j<i→by8 l j≠46)∧out++spl (l.drop f)=spl l∧out.length≤f)∨(i=l.length+1∧out=spl l∧f≤i)
theorem Ql {l:List UInt8} {out:List (List UInt8)} {f i:Nat} (h:OX l out f i) (hi:i≤l.length):f≤i∧out.length≤f∧
  ((i<l.length∧by8 l i≠46→OX l out f (i+1))∧(¬(i<l.length∧by8 l i≠46)→OX l (out++[(l.take i).drop f]) (i+1) (i+1))):=by
 rcases h with⟨_,h2,h3,h4,h5⟩ | ⟨h,_⟩
 ·refine⟨h2,h5,fun⟨q1,q2⟩=> .inl ⟨by omega,by omega,fun j a b=> ?_,h4,h5⟩,fun hq=> ?_⟩
  ·rcases Nat.lt_or_ge j i with h | h
   ·exact h3 j a h
   ·have:j=i:=(by omega);subst this;exact q2
  ·rcases Nat.lt_or_ge i l.length with hl | hl
   ·have h46:by8 l i=46:=Decidable.not_not.1 fun h=>hq ⟨hl,h⟩;refine .inl ⟨by omega,Nat.le_refl _,fun j a b=>by omega,?_,by simp;omega⟩;rw[drop_at h2 hl h46,BU (UE hi h3)]at h4;rw[←h4];simp
   ·have:i=l.length:=(by omega);subst this;refine .inr ⟨rfl,?_,Nat.le_refl _⟩;have hno:=UE hi h3;rw[List.take_length]at hno⊢;rw[sJ hno]at h4;exact h4
 ·omega
def strs (L:List (List UInt8)):List Bs:=L.map ofL
theorem Bq {L:List (List UInt8)} {x:List UInt8} :strs (L++[x])=strs L++[ofL x]:=by simp[strs]
theorem Ap (s:Bs) (hs:s.size≤4000000000):CallsOK Tryz.prog 167 [sV s,.v (.int .u8 46)] (.row 0 (strs (spl (bsL s))).length) [(9,flat sC (strs (spl (bsL s))))]:=by
 refine aN mixed Tryz.call167 Tryz.func167 rfl (by rw[Tryz.ntmps167];simp) ?_ rfl;rw[Tryz.ntmps167];have hl:(bsL s).length=s.size:=gy s;refine aR fun K' hK=> ?_
 simp;apply hK;clear K' hK;refine aR fun K' hK=> ?_
 simp;apply hK;clear K' hK;refine aR fun K' hK=> ?_
 simp;apply hK;clear K' hK;apply aA;refine aR fun K' hK=> ?_
 simp;apply hK;clear K' hK;apply aB
 refine bH (fun t G nx=>t 0=sV s∧t 1=.v (.int .u8 46)∧∃(i f:Nat) (out:List (List UInt8)),t 7=iV i∧t 6=iV f∧OX (bsL s) out f i∧∃r,t 5=.row r (strs out).length∧G r=some (.row 9 (flat sC (strs out)))∧r<nx) (fun s' _ _=>match s' 7 with | .v (.int _ n)=>s.size+1-n.toNat | _=>0) ?_ ?_
 ·exact⟨by simp,by simp,0,0,[],by simp,by simp,.inl ⟨by omega,by omega,fun j a b=>by omega,by simp,by simp⟩,1,by simp[strs],by simp[strs],by omega⟩
 ·rintro t G nx-⟨t0,t1,i,f,out,t7,t6,hcut,r,t5,hr,hrn⟩;have hw:IntKind.i64.wrap (↑i+1)=((i+1:Nat):Int):=dh (by rcases hcut with h | h<;>omega);apply aA;refine aR fun K' hK=> ?_
  simp[t0,t7];apply hK;clear K' hK;refine aC fun A B hA hB=> ?_
  simp;refine⟨fun hi2=>hA ?_,fun hi2=>hB ?_⟩<;>clear hA hB A B<;>(try simp at hi2)<;>(try with_reducible refine aK ?_)
  ·obtain⟨hfi,hof,hno,hyes⟩:=Ql hcut (by omega);apply aB
   refine fC (fun u H ny=>H r=some (.row 9 (flat sC (strs out)))∧r<ny∧u 0=sV s∧u 1=.v (.int .u8 46)∧u 5=.row r (strs out).length∧u 6=iV f∧u 7=iV i∧u 24=bV (!decide (i<(bsL s).length∧by8 (bsL s) i≠46))) ?_ ?_
   ·by_cases he:i=s.size
    ·have he':((i:Nat):Int)=s.size:=(by omega);have hn:¬i<(bsL s).length:=(by omega);refine aS fun K' hK=> ?_
     simp[t0,t7,he,he'];apply hK;clear K' hK;with_reducible refine bP ?_
     simp[hr,hrn,t0,t1,t5,t6,t7,he,hl]
    ·have he':¬((i:Nat):Int)=s.size:=(by omega);have hi3:i<s.size:=(by omega);have hcc:pG s i=by8 (bsL s) i:=rfl;generalize hc:by8 (bsL s) i=c at hcc;by_cases h46:(c.toNat:Int)=46
     ·have h46':c=46:=Em (n:=46) h46 (by decide);refine aS fun K' hK=> ?_
      simp[t0,t1,t7,he,he',hi3,hcc,h46];apply hK;clear K' hK;with_reducible refine bP ?_
      simp[hr,hrn,t0,t1,t5,t6,t7,hl,hi3,h46']
     ·have h46':¬c=46:=fun h=>h46 (by rw[h];rfl);refine aS fun K' hK=> ?_
      simp[t0,t1,t7,he,he',hi3,hcc,h46];apply hK;clear K' hK;with_reducible refine bP ?_
      simp[hr,hrn,t0,t1,t5,t6,t7,hl,hi3,h46']
   rintro u H nx ⟨hr,hrn,u0,u1,u5,u6,u7,u24⟩;by_cases hq:i<(bsL s).length∧by8 (bsL s) i≠46
   ·have hb:(!decide (i<(bsL s).length∧by8 (bsL s) i≠46))=false:=(by simp[hq]);rw[hb]at u24;refine aVk (by simp[u24]) ?_;apply aj
    refine ah ?_;refine aS fun K' hK=> ?_
    simp[u7,hw];apply hK;clear K' hK;refine aj (ay ?_ ?_)
    ·exact⟨by simp[u0],by simp[u1],i+1,f,out,by simp[hw],by simp[u6],hno hq,r,by simp[u5],hr,hrn⟩
    ·simp[t7,hw];omega
   ·have hb:(!decide (i<(bsL s).length∧by8 (bsL s) i≠46))=true:=(by simp only[hq];rfl);rw[hb]at u24;have hnew:=hyes hq;have hsl:s.extract f i=ofL (((bsL s).take i).drop f):=(by apply nD;rw[EN,FP]);have i1:i≤s.size:=(by omega);have hlo:(strs out).length≤f:=(by simpa [strs]using hof);have b1:(strs out).length+1≤9223372036854775807:=(by omega);have b2:((strs out).length+1)*16≤140737488355328:=(by omega);have n1:¬r=nx:=(by omega);refine aU (by simp[u24]) ?_;apply aA;refine aR fun K' hK=> ?_
    simp[u5,u0,u6,u7,je,hfi,i1,hr,b1,b2,n1,bQ,dA];apply hK;clear K' hK;refine aR fun K' hK=> ?_
    simp[u7,hw];apply hK;clear K' hK;apply aj
    refine ah ?_;refine aS fun K' hK=> ?_
    simp[u7,hw];apply hK;clear K' hK;refine aj (ay ?_ ?_)
    ·refine⟨by simp[u0],by simp[u1],i+1,i+1,_,by simp[hw],by simp[hw],hnew,nx+1,by simp[Bq],?_,by omega⟩;rw[Bq,←hsl,Hp.bW,←AB];rfl
    ·simp[t7,hw];omega
  ·skip;apply bG
   refine aI (aH ?_);have hout:out=spl (bsL s):=by
    rcases hcut with h | h
    ·omega
    ·exact h.2.1
   subst hout;refine aR fun K' hK=> ?_
   simp[t5];apply hK;clear K' hK;apply aF
   simp[au,aG,Post,aW,res1,bF,bC,aP,bg,bf,okT,okA,ok1,rowOf,Tryz.f167,hr]
theorem LY:∀(l:List UInt8),∀x∈spl l,x.length≤l.length
 | [],x,h=>by simp[spl]at h;simp[h]
 | b::l,x,h=>by
  have ih:=LY l;rw[spl]at h;split at h
  ·rcases List.mem_cons.1 h with rfl | h
   ·simp
   ·have:=ih x h;simp;omega
  ·cases hs:spl l with
   | nil=>exact absurd hs (QX l)
   | cons p ps=>
    rw[hs]at h ih;rcases List.mem_cons.1 h with rfl | h
    ·have:=ih p (by simp);simp;omega
    ·have:=ih x (List.mem_cons_of_mem _ h);simp;omega
theorem BX:∀(l:List UInt8),(spl l).length≤l.length+1
 | []=>by simp[spl]
 | b::l=>by
  have ih:=BX l;rw[spl];split
  ·simp;omega
  ·cases hs:spl l with
   | nil=>simp
   | cons p ps=>
    rw[hs]at ih;simp at ih⊢;omega
theorem zL {L:List (List UInt8)} {i:Nat} (h:i<L.length):nth (strs L) i=ofL (nth L i):=by
 rw[bZ (by simpa [strs]using h),bZ h];simp[strs]
theorem OC {L:List (List UInt8)} :(strs L).length=L.length:=by simp[strs]
theorem iU (v:Ver) (hs:v.pre.size≤4000000000):CallsOK Tryz.prog 128 [.agg v.cells] (bV (fD v)) []:=by
 refine aN mixed Tryz.call128 Tryz.func128 rfl (by rw[Tryz.ntmps128];simp) ?_ rfl;rw[Tryz.ntmps128];have hl:(bsL v.pre).length=v.pre.size:=gy v.pre;refine aR fun K' hK=> ?_
 simp;apply hK;clear K' hK;apply aA;refine aR fun K' hK=> ?_
 simp;refine ak (zG v.maj) rfl (by first | rfl | (simp;done) | (simp;rfl) | (simp;exact⟨rfl,rfl⟩)) ?_;cases h1:inR v.maj with
 | false=>
  simp;apply hK;clear K' hK;refine aX (by simp) ?_;apply aA;refine aR fun K' hK=> ?_
  simp;apply hK;clear K' hK;apply aJ
  simp[au,aG,Post,aW,res1,bF,bC,aP,bg,bf,okT,okA,ok1,rowOf,Tryz.f128];simp[fD,h1]
 | true=>
 simp;refine ak (zG v.min) rfl (by first | rfl | (simp;done) | (simp;rfl) | (simp;exact⟨rfl,rfl⟩)) ?_;cases h2:inR v.min with
 | false=>
  simp;apply hK;clear K' hK;refine aX (by simp) ?_;apply aA;refine aR fun K' hK=> ?_
  simp;apply hK;clear K' hK;apply aJ
  simp[au,aG,Post,aW,res1,bF,bC,aP,bg,bf,okT,okA,ok1,rowOf,Tryz.f128];simp[fD,h2]
 | true=>
 simp;refine ak (zG v.pat) rfl (by first | rfl | (simp;done) | (simp;rfl) | (simp;exact⟨rfl,rfl⟩)) ?_;cases h3:inR v.pat with
 | false=>
  simp;apply hK;clear K' hK;refine aX (by simp) ?_;apply aA;refine aR fun K' hK=> ?_
  simp;apply hK;clear K' hK;apply aJ
  simp[au,aG,Post,aW,res1,bF,bC,aP,bg,bf,okT,okA,ok1,rowOf,Tryz.f128];simp[fD,h3]
 | true=>
 simp;apply hK;clear K' hK;refine aYk (by simp) ?_
 by_cases he:v.pre=⟨#[]⟩
 ·refine aA ?_;refine aR fun K' hK=> ?_
  simp[he];apply hK;clear K' hK;refine aX (by simp) ?_;apply aA;refine aR fun K' hK=> ?_
  simp;apply hK;clear K' hK;apply aJ
  simp[au,aG,Post,aW,res1,bF,bC,aP,bg,bf,okT,okA,ok1,rowOf,Tryz.f128];simp[fD,h1,h2,h3,oI,he,Kr]
 ·have hne:¬bsL v.pre=[]:=fun h=>he ((gK _).2 h);have hfin:fD v=(decide ((spl (bsL v.pre)).length≤5)&&(spl (bsL v.pre)).all iR):=by
   rw[fD,oI,h1,h2,h3,EU];simp[hne]
  rw[hfin];apply aA;refine aR fun K' hK=> ?_
  simp[he];apply hK;clear K' hK;refine aYk (by simp) ?_;refine aR fun K' hK=> ?_
  simp;refine aO (Ap v.pre hs) (by first | rfl | (simp;done) | (simp;rfl) | (simp;exact⟨rfl,rfl⟩)) ?_;simp[bK];apply hK;clear K' hK;apply aA;refine aR fun K' hK=> ?_
  simp;apply hK;clear K' hK;have hsl:=LY (bsL v.pre);have hsc:=BX (bsL v.pre);generalize spl (bsL v.pre)=L at hsl hsc;have hLl:(strs L).length=L.length:=OC;refine fV (fun s G nx=>s 3=.row 1 (strs L).length∧s 4=iV 0∧G 1=some (.row 9 (flat sC (strs L)))) ?_ ?_
  ·simp
  rintro s G nx ⟨s3,s4,g1⟩;apply aB
  refine bH (fun s G nx=>s 3=.row 1 (strs L).length∧G 1=some (.row 9 (flat sC (strs L)))∧∃i:Nat,s 4=iV i∧i≤(strs L).length∧(L.take i).all iR=true) (fun s _ _=>match s 4 with | .v (.int _ n)=>(strs L).length-n.toNat | _=>0) ?_ ?_
  ·exact⟨s3,g1,0,by simp[s4],by omega,by simp⟩
  ·rintro s G nx-⟨s3,g1,i,s4,hi,hall⟩;apply aA;refine aR fun K' hK=> ?_
   simp[s3,s4,g1];apply hK;clear K' hK;refine aC fun A B hA hB=> ?_
   simp;refine⟨fun hi2=>hA ?_,fun hi2=>hB ?_⟩<;>clear hA hB A B<;>(try simp at hi2)<;>(try with_reducible refine aK ?_)
   ·have hi3:i<L.length:=(by omega);have hw:IntKind.i64.wrap (↑i+1)=((i+1:Nat):Int):=dh (by omega);have hst:=iK (p:=iR) hi3;rw[hall,Bool.true_and]at hst;have hmem:=hsl _ (bM hi3);have hpp:=NG (nth (strs L) i) (by rw[zL hi3,jg];omega);rw[zL hi3,EN]at hpp;apply aB;refine aR fun K' hK=> ?_
    simp[s3,s4,g1,hi2,zL hi3];refine ak hpp rfl (by first | rfl | (simp;done) | (simp;rfl) | (simp;exact⟨rfl,rfl⟩)) ?_;cases hp:iR (nth L i)with
    | true=>
     rw[hp]at hst;simp;apply hK;clear K' hK;refine aVk (by simp) ?_;apply aj
     refine ah ?_;refine aS fun K' hK=> ?_
     simp[s4,hw];apply hK;clear K' hK;refine aj (ay ?_ ?_)
     ·exact⟨by simp[s3],g1,i+1,by simp[hw],by omega,hst⟩
     ·simp[s4,hw];omega
    | false=>
     simp;apply hK;clear K' hK;refine aU (by simp) ?_;apply aA;refine aR fun K' hK=> ?_
     simp;apply hK;clear K' hK;apply aJ
     simp[au,aG,Post,aW,res1,bF,bC,aP,bg,bf,okT,okA,ok1,rowOf,Tryz.f128];intro _;exact⟨_,bM hi3,hp⟩
   ·skip;apply bG
    refine aI (aH ?_);have:i=L.length:=(by omega);subst this;rw[List.take_length]at hall;refine aR fun K' hK=> ?_
    simp[s3,g1];apply hK;clear K' hK;apply aF
    simp[au,aG,Post,aW,res1,bF,bC,aP,bg,bf,okT,okA,ok1,rowOf,Tryz.f128];simp[hall,hLl];omega
set_option maxRecDepth 100000
set_option maxHeartbeats 1000000
def Pre (t:List Pl) (n:Nat):Prop:=parN t 0= -1∧∀j,1≤j→j≤n→0≤parN t j∧parN t j<j
theorem Pre.dn {t:List Pl} {n:Nat} (h:Pre t n):∀j,j≤n→parN t j<j:=by
 intro j hj;rcases Nat.eq_zero_or_pos j with rfl | h1
 ·rw[h.1];omega
 ·exact(h.2 j h1 hj).2
theorem Pre.le {t:List Pl} {n m:Nat} (h:Pre t n) (hm:m≤n):Pre t m:=⟨h.1,fun j a b=>h.2 j a (by omega)⟩
theorem Ej {t:List Pl} {n:Nat} (hd:∀j,j≤n→parN t j<j):∀(m k i:Nat),i<k→i<m→i≤n→upF t k i=upN t i
 | 0,k,i,_,h,_=>by omega
 | m+1,0,i,h,_,_=>by omega
 | m+1,k+1,i,hk,hm,hi=>by
  have:=hd i hi;unfold upN;rw[upF,upF];by_cases hp:parN t i<0
  ·rw[if_pos hp,if_pos hp]
  ·rw[if_neg hp,if_neg hp,Ej hd m k _ (by omega) (by omega) (by omega),Ej hd m i _ (by omega) (by omega) (by omega)]
theorem uD {t:List Pl} {n:Nat} (h:Pre t n) {i:Nat} (hi:i≤n):upN t i=i::(if parN t i<0 then[]else upN t (parN t i).toNat):=by
 have:=h.dn i hi
 conv=>lhs;unfold upN
 rw[upF];by_cases hp:parN t i<0
 ·rw[if_pos hp,if_pos hp]
 ·rw[if_neg hp,if_neg hp,Ej h.dn (i+1) i _ (by omega) (by omega) (by omega)]
theorem Fp {t:List Pl} {n:Nat} (hn:n<t.length) (h:Pre t n):∀i,i≤n→∀j,j≤i→nth (dD t i) j+1=((upN t j).length:Int)
 | 0,hi,j,hj=>by
  have:j=0:=(by omega);subst this;rw[Ef h.1,dD,bZ (by simp;omega)];simp
 | i+1,hi,j,hj=>by
  have ih:=Fp hn h i (by omega);rw[dD,uG (by rw[yD];omega),qG (by omega)];by_cases hj2:j=i+1
  ·subst hj2;obtain⟨h1,h2⟩:=h.2 (i+1) (by omega) hi;have hq:(nth t (i+1)).par=parN t (i+1):=rfl;rw[if_pos rfl,hq,ih _ (by omega),uD h hi,if_neg (by omega)];simp
  ·rw[if_neg hj2];exact ih j (by omega)
theorem NI {t:List Pl} {i:Nat} (h:i+1<t.length) (hp:Pre t i):xC t i=true↔(0≤parN t (i+1)∧parN t (i+1)≤i)∧rightF (nth t (i+1)).name (nth t (i+1)).ver=true∧
  (∀j,1≤j→j≤i→parN t j=parN t (i+1)→(nth t j).name=(nth t (i+1)).name→False)∧jw t (i+1)≤12:=by
 rw[oC h];constructor
 ·rintro⟨a,b,c,d⟩;have hp':Pre t (i+1):=⟨hp.1,fun j h1 h2=>by
   rcases Nat.lt_or_ge i j with h | h
   ·have:j=i+1:=(by omega);subst this;omega
   ·exact hp.2 j h1 h⟩
  rw[Fp (by omega) hp i (Nat.le_refl _) _ (by omega)]at d;refine⟨a,b,c,?_⟩;unfold jw;rw[uD hp' (Nat.le_refl _),if_neg (by omega)];simp;omega
 ·rintro⟨a,b,c,d⟩;have hp':Pre t (i+1):=⟨hp.1,fun j h1 h2=>by
   rcases Nat.lt_or_ge i j with h | h
   ·have:j=i+1:=(by omega);subst this;omega
   ·exact hp.2 j h1 h⟩
  refine⟨a,b,c,?_⟩;rw[Fp (by omega) hp i (Nat.le_refl _) _ (by omega)];unfold jw at d;rw[uD hp' (Nat.le_refl _),if_neg (by omega)]at d;simp at d;omega
theorem Good.pre {t:List Pl} (g:Good t) {n:Nat} (hn:n<t.length):Pre t n:=⟨iQ g.root,fun j h1 h2=>g.par j h1 (by omega)⟩
def chR (t:List Pl) (m:Nat) (p:Int) (b:Bs):Int:=match (List.range m).find? (fun i=>decide (1≤i)&&chP p b (nth t i))with
 | some i=>i
 | none=> -1
theorem find_range {q:Nat→Bool} {i:Nat} (hq:q i=true):∀m:Nat,i<m→(∀j,j<i→q j=false)→(List.range m).find? q=some i
 | 0,h,_=>by omega
 | m+1,h,hn=>by
  rw[List.range_succ,List.find?_append];rcases Nat.lt_or_ge i m with h1 | h1
  ·rw[find_range hq m h1 hn];rfl
  ·have:i=m:=(by omega);subst this;have h0:(List.range i).find? q=none:=by
    rw[List.find?_eq_none];intro x hx;rw[hn x (List.mem_range.1 hx)];simp
   rw[h0];simp[hq]
theorem QD {t:List Pl} {m i:Nat} {p:Int} {b:Bs} (h1:1≤i) (hi:i<m) (hq:chP p b (nth t i)=true) (hn:∀j,1≤j→j<i→chP p b (nth t j)=false):chR t m p b=i:=by
 unfold chR;rw[find_range (i:=i) (by simp[h1,hq]) m hi (fun j hj=>by
  by_cases h:1≤j
  ·simp[hn j h hj]
  ·simp[h])]
theorem QO {t:List Pl} {m:Nat} {p:Int} {b:Bs} (hn:∀j,1≤j→j<m→chP p b (nth t j)=false):chR t m p b= -1:=by
 unfold chR;have h0:(List.range m).find? (fun i=>decide (1≤i)&&chP p b (nth t i))=none:=by
  rw[List.find?_eq_none];intro x hx;by_cases h:1≤x
  ·simp[hn x h (List.mem_range.1 hx)]
  ·simp[h]
 rw[h0]
theorem Us {t:List Pl} {m:Nat} {p:Int} {b:Bs} :0≤chR t m p b↔∃k,1≤k∧k<m∧parN t k=p∧(nth t k).name=b:=by
 unfold chR;cases h:(List.range m).find? (fun i=>decide (1≤i)&&chP p b (nth t i))with
 | some i=>
  have h1:=List.mem_range.1 (List.mem_of_find?_eq_some h);have h2:=List.find?_some h;simp[chP]at h2;simp only[Int.natCast_nonneg,true_iff];exact⟨i,h2.1,h1,h2.2.1,h2.2.2⟩
 | none=>
  rw[List.find?_eq_none]at h;constructor
  ·intro h;have h:(0:Int)≤-1:=h;omega
  ·rintro⟨k,h1,h2,h3,h4⟩;refine absurd ?_ (h k (List.mem_range.2 h2));simp[h1,chP,h4];exact h3
theorem Qy {t:List Pl} {p:Int} {b:Bs} (g:Good t) (hp:0≤p):chR t t.length p b=atI (chF t p b):=by
 have h0:=iQ g.root;cases h:chF t p b with
 | some k=>
  obtain⟨a1,a2,a3⟩:=ql h;have hk:1≤k:=by
   rcases Nat.eq_zero_or_pos k with rfl | h
   ·omega
   ·exact h
  refine QD hk a1 (by simp[chP,a3];exact a2) fun j j1 jk=> ?_;cases hq:chP p b (nth t j)with
  | false=>rfl
  | true=>
   simp[chP]at hq;have:=g.child hp (k:=j) (by omega) hq.1 hq.2;rw[h]at this;injection this with this;omega
 | none=>
  refine QO fun j j1 jl=> ?_;cases hq:chP p b (nth t j)with
  | false=>rfl
  | true=>
   simp[chP]at hq;exact(kK.1 h j jl hq.1 hq.2).elim
theorem rH (t:List Pl) (hl:t.length≤1000000000) (m:Nat) (hm:m≤t.length) (p:Int) (b:Bs):CallsOK Tryz.prog 129 [rowT Pl.cells t,iV m,iV p,sV b] (iV (chR t m p b)) []:=by
 refine aN mixed Tryz.call129 Tryz.func129 rfl (by rw[Tryz.ntmps129];simp) ?_ rfl;rw[Tryz.ntmps129];refine aR fun K' hK=> ?_
 simp;apply hK;clear K' hK;apply aA;refine aR fun K' hK=> ?_
 simp;apply hK;clear K' hK;apply aB
 refine bH (fun s G nx=>s 0=rowT Pl.cells t∧s 1=iV m∧s 2=iV p∧s 3=sV b∧∃i:Nat,s 9=iV i∧i≤m+1∧1≤i∧∀j,1≤j→j<i→chP p b (nth t j)=false) (fun s _ _=>match s 9 with | .v (.int _ n)=>m+1-n.toNat | _=>0) ?_ ?_
 ·exact⟨by simp,by simp,by simp,by simp,1,by simp,by omega,by omega,fun j a b=>by omega⟩
 ·rintro s G nx-⟨s0,s1,s2,s3,i,s9,hi,hi1,hn⟩;have hw:IntKind.i64.wrap (↑i+1)=((i+1:Nat):Int):=dh (by omega);apply aA;refine aR fun K' hK=> ?_
  simp[s1,s9];apply hK;clear K' hK;refine aC fun A B hA hB=> ?_
  simp;refine⟨fun hi2=>hA ?_,fun hi2=>hB ?_⟩<;>clear hA hB A B<;>(try simp at hi2)<;>(try with_reducible refine aK ?_)
  ·have hi3:i<t.length:=(by omega);apply aB
   by_cases c1:(nth t i).par=p
   ·by_cases c2:(nth t i).name=b
    ·skip;refine aR fun K' hK=> ?_
     simp[s0,s2,s3,s9,hi3,c1,c2];apply hK;clear K' hK;refine aU (by simp) ?_;apply aA;refine aR fun K' hK=> ?_
     simp[s9];apply hK;clear K' hK;apply aJ
     simp[au,aG,Post,aW,res1,bF,bC,aP,bg,bf,okT,okA,ok1,rowOf,Tryz.f129];exact(QD hi1 hi2 (by simp[chP,c1,c2]) hn).symm
    ·skip;refine aR fun K' hK=> ?_
     simp[s0,s2,s3,s9,hi3,c1,c2];apply hK;clear K' hK;refine aVk (by simp) ?_;apply aj
     refine ah ?_;refine aS fun K' hK=> ?_
     simp[s9,hw];apply hK;clear K' hK;refine aj (ay ?_ ?_)
     ·refine⟨by simp[s0],by simp[s1],by simp[s2],by simp[s3],i+1,by simp[hw],by omega,by omega,fun j a b=> ?_⟩;rcases Nat.lt_or_ge j i with h | h
      ·exact hn j a h
      ·have:j=i:=(by omega);subst this;simp[chP,c2]
     ·simp[s9,hw];omega
   ·skip;refine aR fun K' hK=> ?_
    simp[s0,s2,s3,s9,hi3,c1];apply hK;clear K' hK;refine aVk (by simp) ?_;apply aj
    refine ah ?_;refine aS fun K' hK=> ?_
    simp[s9,hw];apply hK;clear K' hK;refine aj (ay ?_ ?_)
    ·refine⟨by simp[s0],by simp[s1],by simp[s2],by simp[s3],i+1,by simp[hw],by omega,by omega,fun j a b=> ?_⟩;rcases Nat.lt_or_ge j i with h | h
     ·exact hn j a h
     ·have:j=i:=(by omega);subst this;simp[chP,c1]
    ·simp[s9,hw];omega
  ·skip;apply bG
   refine aI (aH ?_);refine aR fun K' hK=> ?_
   simp;apply hK;clear K' hK;apply aF
   simp[au,aG,Post,aW,res1,bF,bC,aP,bg,bf,okT,okA,ok1,rowOf,Tryz.f129];exact(QO fun j a b=>hn j a (by omega)).symm
theorem vF (t:List Pl) (hl:t.length≤1000000000) (n:Nat) (hn:n<t.length) (hp:Pre t n):CallsOK Tryz.prog 130 [rowT Pl.cells t,iV n] (iV (jw t n)) []:=by
 refine aN mixed Tryz.call130 Tryz.func130 rfl (by rw[Tryz.ntmps130];simp) ?_ rfl;rw[Tryz.ntmps130];have htot:=QC (t:=t) n;refine aR fun K' hK=> ?_
 simp;apply hK;clear K' hK;refine aR fun K' hK=> ?_
 simp;apply hK;clear K' hK;apply aB
 refine bH (fun s G nx=>s 0=rowT Pl.cells t∧∃(j h:Nat),s 1=iV j∧s 5=iV h∧j≤n∧h+(upN t j).length=(upN t n).length) (fun s _ _=>match s 1 with | .v (.int _ n)=>n.toNat | _=>0) ?_ ?_
 ·exact⟨by simp,n,0,by simp,by simp,by omega,by omega⟩
 ·rintro s G nx-⟨s0,j,h,s1,s5,hj,hh⟩;have o1:=s1;apply aA;refine aR fun K' hK=> ?_
  simp[s1];apply hK;clear K' hK;by_cases hj0:(0:Int)<j
  ·have hpj:=hp.2 j (by omega) hj;have hst:=uD hp hj;rw[if_neg (by omega)]at hst;rw[hst]at hh;simp at hh;obtain⟨k,hk⟩:∃k:Nat,parN t j=k:=⟨(parN t j).toNat,by omega⟩;have hkp:(nth t j).par=k:=hk;rw[hk]at hh hpj;have hj3:j<t.length:=(by omega);have hw:IntKind.i64.wrap (↑h+1)=((h+1:Nat):Int):=dh (by omega)
   (first | with_reducible refine aC fun A B hA hB=> ?_ | with_reducible refine aD fun A B hA hB=> ?_)
   simp[hj0];refine⟨fun hc=>hA ?_,fun hc=>hB ?_⟩<;>clear hA hB A B<;>(try (simp at hc;done))<;>(try (exfalso;simp at hc;omega))<;>clear hc<;>(try with_reducible refine aK ?_);refine dL (aB ?_);refine aR fun K' hK=> ?_
   simp[s0,s1,hj3,hkp];apply hK;clear K' hK;refine aS fun K' hK=> ?_
   simp[s5,hw];apply hK;clear K' hK;apply aj
   refine ah ?_;refine aj (ay ?_ ?_)
   ·exact⟨by simp[s0],k,h+1,by simp,by simp[hw],by omega,by simp at hh;omega⟩
   ·simp[o1];omega
  ·have:j=0:=(by omega);subst this;rw[Ef hp.1]at hh;refine aY (by simp[hj0]) ?_;apply bG
   refine aI (aH ?_);refine aR fun K' hK=> ?_
   simp[s5];apply hK;clear K' hK;apply aF
   simp[au,aG,Post,aW,res1,bF,bC,aP,bg,bf,okT,okA,ok1,rowOf,Tryz.f130];unfold jw;simp at hh;omega
set_option maxRecDepth 100000
set_option maxHeartbeats 1000000
theorem mO (b:Bs) (v:Ver):rightF b v=(jq (bsL b)&&fD v):=by
 unfold rightF;rw[Bool.and_comm]
theorem xU (t:List Pl) (ht:OKs t):CallsOK Tryz.prog 126 [rowT Pl.cells t] (iV (checkN t)) []:=by
 refine aN mixed Tryz.call126 Tryz.func126 rfl (by rw[Tryz.ntmps126];simp) ?_ rfl;rw[Tryz.ntmps126];have hl:=ht.1;refine aR fun K' hK=> ?_
 simp;apply hK;clear K' hK;apply aA;refine aR fun K' hK=> ?_
 simp;apply hK;clear K' hK;by_cases h2:(200:Int)<t.length
 ·skip;refine aX (by simp[h2]) ?_;apply aA;refine aR fun K' hK=> ?_
  simp;apply hK;clear K' hK;apply aJ
  simp[au,aG,Post,aW,res1,bF,bC,aP,bg,bf,okT,okA,ok1,rowOf,Tryz.f126];rw[checkN,if_pos (by omega)]
 refine aYk (by simp[h2]) ?_
 have h2':¬200<t.length:=(by omega);refine aR fun K' hK=> ?_
 simp[N9];apply hK;clear K' hK;by_cases he:t=[]
 ·refine aA ?_;refine aQ fun K' hK=> ?_
  simp(maxSteps:=1000000) [he];apply hK;clear K' hK;refine aX (by simp) ?_;apply aA;refine aR fun K' hK=> ?_
  simp;apply hK;clear K' hK;apply aJ
  simp[au,aG,Post,aW,res1,bF,bC,aP,bg,bf,okT,okA,ok1,rowOf,Tryz.f126];rw[checkN,if_neg h2',if_pos (.inl he)]
 have hpos:0<t.length:=List.length_pos_iff.2 he;have hpos':(0:Int)<t.length:=(by omega);have hz:¬(t.length:Int)=0:=(by omega);by_cases hr:nth t 0=rootP
 case neg=>
  apply aA;refine aQ fun K' hK=> ?_
  simp(maxSteps:=1000000) [hz,hpos,hpos',hr,he,N9];apply hK;clear K' hK;refine aX (by simp) ?_;apply aA;refine aR fun K' hK=> ?_
  simp;apply hK;clear K' hK;apply aJ
  simp[au,aG,Post,aW,res1,bF,bC,aP,bg,bf,okT,okA,ok1,rowOf,Tryz.f126];rw[checkN,if_neg h2',if_pos (.inr hr)]
 apply aA;refine aQ fun K' hK=> ?_
 simp(maxSteps:=1000000) [hz,hpos,hpos',hr,he,N9];apply hK;clear K' hK;refine aYk (by simp) ?_;apply aA;refine aR fun K' hK=> ?_
 simp;apply hK;clear K' hK;apply aB
 have hbad:∀ {i:Nat},i+1<t.length→xC t i=false→checkN t=150:=fun {i} hi h=>by
  rw[checkN,if_neg h2',if_neg (by simp[he,hr]),qo,gY (i:=i) (by rw[List.length_tail];omega) h];rfl
 refine bH (fun s G nx=>s 0=rowT Pl.cells t∧∃m:Nat,s 4=iV m∧1≤m∧m≤t.length∧∀j,j+1<m→xC t j=true) (fun s _ _=>match s 4 with | .v (.int _ n)=>t.length-n.toNat | _=>0) ?_ ?_
 ·exact⟨by simp,1,by simp,by omega,by omega,fun j hj=>by omega⟩
 ·rintro s G nx-⟨s0,m,s4,hm1,hm,hall⟩;have o4:=s4;have hw:IntKind.i64.wrap ((m:Int)+1)=((m+1:Nat):Int):=dh (by omega);obtain⟨i,hmi⟩:∃i,m=i+1:=⟨m-1,by omega⟩;have hpre:Pre t i:=⟨iQ hr,fun j h1 hj=>by
   obtain⟨j,rfl⟩:∃m,j=m+1:=⟨j-1,by omega⟩;have:=GK (t:=t) (i:=j) (by omega) (hall j (by omega));omega⟩
  apply aA;refine aR fun K' hK=> ?_
  simp[s0,s4];apply hK;clear K' hK;refine aC fun A B hA hB=> ?_
  simp;refine⟨fun hi2=>hA ?_,fun hi2=>hB ?_⟩<;>clear hA hB A B<;>(try simp at hi2)<;>(try with_reducible refine aK ?_)
  ·have hi3:i+1<t.length:=(by omega);have hok:=NI hi3 hpre;rw[←hmi]at hok;have hpm:nth t m∈t:=bM hi2;obtain⟨b1,b2⟩:=ht.2 _ hpm;have hpar:parN t m=(nth t m).par:=rfl;generalize hp:nth t m=p at hpar hok b1 b2;rw[hpar]at hok;have hff:¬((0≤p.par∧p.par≤i)∧rightF p.name p.ver=true∧(∀(j:Nat),1≤j→j≤i→parN t j=p.par→(nth t j).name=p.name→False)∧jw t m≤12)→xC t i=false:=fun h=>by
    cases h1:xC t i with
    | false=>rfl
    | true=>exact(h (hok.1 h1)).elim
   apply aB
   refine fC (fun u G' nx'=>u 0=rowT Pl.cells t∧u 4=iV m∧∃id,u 5=.ptr id 0∧G' id=some (.var 50 p.cells)∧id<nx') ?_ ?_
   ·skip;refine aS fun K' hK=> ?_
    simp[s0,s4,hi2,hp];apply hK;clear K' hK;with_reducible refine bP ?_
    exact⟨by simp[s0],by simp[s4],nx,by simp,by simp,by omega⟩
   rintro u H ny ⟨u0,u4,id,u5,hid,hidn⟩;refine fC (fun v H ny=>v 0=rowT Pl.cells t∧v 4=iV m∧v 66=bV (!xC t i)) ?_ ?_
   ·by_cases c1:p.par<0
    ·have hf:=hff (fun h=>by omega);refine aS fun K' hK=> ?_
     simp[u5,hid,c1];apply hK;clear K' hK;with_reducible refine bP ?_
     simp[u0,u4,hf]
    by_cases c2:(m:Int)≤p.par
    ·have hf:=hff (fun h=>by omega);refine aS fun K' hK=> ?_
     simp[u4,u5,hid,c1,c2];apply hK;clear K' hK;with_reducible refine bP ?_
     simp[u0,u4,hf]
    have hpre2:Pre t m:=⟨hpre.1,fun j h1 hj=>by
     rcases Nat.lt_or_ge i j with h | h
     ·have:j=m:=(by omega);subst this;rw[hpar];omega
     ·exact hpre.2 j h1 h⟩
    refine aS fun K' hK=> ?_
    simp[u4,u5,hid,c1,c2];refine ak (lF p.name (by omega)) rfl (by first | rfl | (simp;done) | (simp;rfl) | (simp;exact⟨rfl,rfl⟩)) ?_;cases c3:jq (bsL p.name)with
    | false=>
     have hf:=hff (fun h=>by have:=h.2.1;rw[mO,c3]at this;cases this);simp;apply hK;clear K' hK;with_reducible refine bP ?_
     simp[u0,u4,hf]
    | true=>
    simp[u5,hid];refine ak (iU p.ver (by omega)) rfl (by first | rfl | (simp;done) | (simp;rfl) | (simp;exact⟨rfl,rfl⟩)) ?_;cases c4:fD p.ver with
    | false=>
     have hf:=hff (fun h=>by have:=h.2.1;rw[mO,c4]at this;simp at this);simp;apply hK;clear K' hK;with_reducible refine bP ?_
     simp[u0,u4,hf]
    | true=>
    simp[u0,u4,u5,hid];refine ak (rH t hl m (by omega) p.par p.name) rfl (by first | rfl | (simp;done) | (simp;rfl) | (simp;exact⟨rfl,rfl⟩)) ?_;have hch:=Us (t:=t) (m:=m) (p:=p.par) (b:=p.name);by_cases c5:0≤chR t m p.par p.name
    ·have hf:=hff (fun h=>by
      obtain⟨k,k1,k2,k3,k4⟩:=hch.1 c5;exact h.2.2.1 k k1 (by omega) k3 k4)
     simp[c5];apply hK;clear K' hK;with_reducible refine bP ?_
     simp[u0,u4,hf]
    simp[c5,u0,u4];refine ak (vF t hl m hi2 hpre2) rfl (by first | rfl | (simp;done) | (simp;rfl) | (simp;exact⟨rfl,rfl⟩)) ?_;by_cases c6:12<jw t m
    ·have hf:=hff (fun h=>by omega);simp[c6];apply hK;clear K' hK;with_reducible refine bP ?_
     simp[u0,u4,hf]
    ·have hf:xC t i=true:=hok.2 ⟨by omega,by rw[mO,c3,c4];rfl,fun j j1 j2 j3 j4=>c5 (hch.2 ⟨j,j1,by omega,j3,j4⟩),by omega⟩;simp[c6];apply hK;clear K' hK;with_reducible refine bP ?_
     simp[u0,u4,hf]
   rintro v H ny ⟨v0,v4,v66⟩;cases hf:xC t i with
   | false=>
    rw[hf]at v66;refine aU (by simp[v66]) ?_;apply aA;refine aR fun K' hK=> ?_
    simp;apply hK;clear K' hK;apply aJ
    simp[au,aG,Post,aW,res1,bF,bC,aP,bg,bf,okT,okA,ok1,rowOf,Tryz.f126];exact(hbad hi3 hf).symm
   | true=>
    rw[hf]at v66;refine aVk (by simp[v66]) ?_;apply aj
    refine ah ?_;refine aS fun K' hK=> ?_
    simp[v4,hw];apply hK;clear K' hK;refine aj (ay ?_ ?_)
    ·refine⟨by simp[v0],m+1,by simp[hw],by omega,by omega,fun j hj=> ?_⟩;rcases Nat.lt_or_ge j i with h | h
     ·exact hall j (by omega)
     ·have:j=i:=(by omega);subst this;exact hf
    ·simp[o4,hw];omega
  ·skip;apply bG
   refine aI (aH ?_);refine aR fun K' hK=> ?_
   simp;apply hK;clear K' hK;apply aF
   simp[au,aG,Post,aW,res1,bF,bC,aP,bg,bf,okT,okA,ok1,rowOf,Tryz.f126];have hto:qo t=true:=by
    unfold qo;rw[List.all_eq_true];intro j hj;have:=List.mem_range.1 hj;rw[List.length_tail]at this;exact hall j (by omega)
   rw[checkN,if_neg h2',if_neg (by simp[he,hr]),if_pos hto]
set_option maxRecDepth 100000
set_option maxHeartbeats 1000000
theorem lQ (t:List Pl) (g:Good t) (ht:OKs t) (i:Nat) (hi:i<t.length) (b:Bs):CallsOK Tryz.prog 135 [rowT Pl.cells t,iV i,sV b] (iV (dF t i b)) []:=by
 refine aN mixed Tryz.call135 Tryz.func135 rfl (by rw[Tryz.ntmps135];simp) ?_ rfl;rw[Tryz.ntmps135];refine aR fun K' hK=> ?_
 simp;apply hK;clear K' hK;apply aB
 refine bH (fun s G nx=>s 0=rowT Pl.cells t∧s 2=sV b∧∃p:Int,s 1=iV p∧((∃j:Nat,p=j∧j<t.length∧dF t j b=dF t i b)∨(p= -1∧dF t i b= -1))) (fun s _ _=>match s 1 with | .v (.int _ n)=>(n+1).toNat | _=>0) ?_ ?_
 ·exact⟨by simp,by simp,i,by simp,.inl ⟨i,rfl,hi,rfl⟩⟩
 ·rintro s G nx-⟨s0,s2,p,s1,hp⟩;rcases hp with⟨j,rfl,hj,hr⟩ | ⟨rfl,hr⟩
  ·have o1:=s1;have hd:=g.dn j hj;have hge: -1≤parN t j:=by
    rcases Nat.eq_zero_or_pos j with rfl | h
    ·rw[iQ g.root];omega
    ·have:=g.par j h hj;omega
   have hch:=Qy (b:=b) g (p:=(j:Int)) (by omega);apply aA;refine aR fun K' hK=> ?_
   simp[s1];apply hK;clear K' hK;refine aXk (by simp) ?_;refine dL (aB ?_);refine aR fun K' hK=> ?_
   simp[s0,s1,s2];refine ak (rH t ht.1 t.length (Nat.le_refl _) j b) rfl (by first | rfl | (simp;done) | (simp;rfl) | (simp;exact⟨rfl,rfl⟩)) ?_;rw[hch];simp;apply hK;clear K' hK;cases hc:chF t j b with
   | some k=>
    rw[Bc g hj hc]at hr;have h0:(0:Int)≤atI (some k):=(by simp[atI]);apply aA;refine aR fun K' hK=> ?_
    simp[h0];apply hK;clear K' hK;refine aX (by simp) ?_;apply aA;refine aR fun K' hK=> ?_
    simp;apply hK;clear K' hK;apply aJ
    simp[au,aG,Post,aW,res1,bF,bC,aP,bg,bf,okT,okA,ok1,rowOf,Tryz.f135];rw[←hr];rfl
   | none=>
    have h0:¬(0:Int)≤atI none:=(by simp[atI]);apply aA;refine aR fun K' hK=> ?_
    simp[h0];apply hK;clear K' hK;refine aYk (by simp) ?_;refine aS fun K' hK=> ?_
    simp[s0,s1,hj];apply hK;clear K' hK;apply aj
    refine ah ?_;refine aj (ay ?_ ?_)
    ·refine⟨by simp[s0],by simp[s2],parN t j,by simp[parN],?_⟩;by_cases hp:0≤parN t j
     ·rw[F9 g hj hc hp]at hr;exact .inl ⟨(parN t j).toNat,by omega,by omega,by rw[Int.toNat_of_nonneg hp];exact hr⟩
     ·rw[Hw g hj hc (by omega)]at hr;exact .inr ⟨by omega,hr.symm⟩
    ·simp[o1];have:(nth t j).par=parN t j:=rfl;omega
  ·refine aA ?_;refine aR fun K' hK=> ?_
   simp[s1];apply hK;clear K' hK;refine aY (by simp) ?_;apply bG
   refine aI (aH ?_);refine aR fun K' hK=> ?_
   simp;apply hK;clear K' hK;apply aF
   simp[au,aG,Post,aW,res1,bF,bC,aP,bg,bf,okT,okA,ok1,rowOf,Tryz.f135];exact hr.symm
set_option maxRecDepth 100000
set_option maxHeartbeats 1000000
theorem c9:Tryz.prog.cellsOf 9=1:=by kernel_rfl
set_option maxRecDepth 100000
set_option maxHeartbeats 1000000
@[simp] theorem eqlB (a b:Bool):iZ Tryz.prog .eql 4 (.bool a) (.bool b)=some (.bool (a==b)):=by
 cases a<;>cases b<;>kernel_rfl
theorem Ah (t:List Pl) (hl:t.length≤1000000000):CallsOK Tryz.prog 13 [rowT Pl.cells t] (.row 0 t.length) [(50,flat Pl.cells t)]:=by
 refine aN mixed Tryz.call13 Tryz.func13 rfl (by rw[Tryz.ntmps13];simp) ?_ rfl;rw[Tryz.ntmps13];have b1:t.length≤9223372036854775807:=(by omega);have b2:t.length*64≤140737488355328:=(by omega);have hfl:(flat Pl.cells t).length=t.length*6:=eY;refine aR fun K' hK=> ?_
 simp;apply hK;clear K' hK;refine aR fun K' hK=> ?_
 simp;apply hK;clear K' hK;refine aR fun K' hK=> ?_
 simp[b1,b2,hfl];apply hK;clear K' hK;refine aR fun K' hK=> ?_
 simp;apply hK;clear K' hK;apply aF
 simp[au,aG,Post,aW,res1,bF,bC,aP,bg,bf,okT,okA,ok1,rowOf,Tryz.f13]
def OwnAt (G:Hp) (r:Nat) (t:List Pl):Prop:=G r=some (.row 50 (flat Pl.cells t))∨G r=some (.frz 50 (flat Pl.cells t))
theorem OwnAt.tree {G:Hp} {r:Nat} {t:List Pl} (h:OwnAt G r t):bJ Tryz.prog G (.row r t.length)=some (rowT Pl.cells t):=by
 rcases h with h | h
 ·exact dN h c34 rfl
 ·exact gW h c34 rfl
theorem OwnAt.frz {G:Hp} {r n:Nat} {t:List Pl} (h:OwnAt G r t):∃G',bT G (.row r n)=G'∧OwnAt G' r t∧∀j,j≠r→G' j=G j:=by
 rcases h with h | h
 ·cases t with
  | nil=>exact⟨G,by rw[mV,h];rfl,.inl h,fun _ _=>rfl⟩
  | cons p t=>exact⟨_,Nw h (by simp),.inr (by simp),fun j hj=>Hp.upd_ne _ _ hj⟩
 ·exact⟨G,NS h,.inr h,fun _ _=>rfl⟩
set_option maxRecDepth 100000
set_option maxHeartbeats 1000000
theorem Ii (t:List Pl) (ht:OKs t) (i:Int) (name:Bs) (v:Ver) (hn:name.size≤4000000000) (hv:v.pre.size≤4000000000):
  CallsOK Tryz.prog 86 [rowT Pl.cells t,iV i,sV name,.agg v.cells] (.tup [.row 0 (AO t i name v).length,iV (Ju t i name v),iV (cZ t i name v)]) [(50,flat Pl.cells (AO t i name v))]:=by
 refine aN mixed Tryz.call86 Tryz.func86 rfl (by rw[Tryz.ntmps86];simp) ?_ rfl;rw[Tryz.ntmps86];have hl:=ht.1;refine aR fun K' hK=> ?_
 simp;apply hK;clear K' hK;refine aR fun K' hK=> ?_
 simp;refine ak (xU t ht) rfl (by first | rfl | (simp;done) | (simp;rfl) | (simp;exact⟨rfl,rfl⟩)) ?_;simp;apply hK;clear K' hK;by_cases c0:checkN t=0
 case neg=>
  have e:cZ t i name v=checkN t:=(by rw[cZ,if_pos c0]);have hne:¬cZ t i name v=0:=(by rw[e];exact c0);apply aA;refine aR fun K' hK=> ?_
  simp[c0];apply hK;clear K' hK;refine aX (by simp) ?_;apply aA;refine aR fun K' hK=> ?_
  simp;apply hK;clear K' hK;apply aJ
  simp[au,aG,Post,aW,res1,bF,bC,aP,bg,bf,okT,okA,ok1,rowOf,Tryz.f86];have eR:AO t i name v=[]:=(by rw[AO,if_neg hne]);have eI:Ju t i name v=0:=(by rw[Ju,if_neg hne]);rw[eR,eI,e];simp;rfl
 have g:=dZ.1 c0;apply aA;refine aR fun K' hK=> ?_
 simp[c0];apply hK;clear K' hK;refine aYk (by simp) ?_
 by_cases c1:i<0
 ·have e:cZ t i name v=151:=(by simp[cZ,c0,show¬0≤i by omega]);apply aA;refine aR fun K' hK=> ?_
  simp[c1];apply hK;clear K' hK;refine aX (by simp) ?_;apply aA;refine aR fun K' hK=> ?_
  simp;apply hK;clear K' hK;apply aJ
  simp[au,aG,Post,aW,res1,bF,bC,aP,bg,bf,okT,okA,ok1,rowOf,Tryz.f86];simp[AO,Ju,e];rfl
 by_cases c2:(t.length:Int)≤i
 ·have e:cZ t i name v=151:=(by simp[cZ,c0,show¬i<t.length by omega]);apply aA;refine aR fun K' hK=> ?_
  simp[c1,c2];apply hK;clear K' hK;refine aX (by simp) ?_;apply aA;refine aR fun K' hK=> ?_
  simp;apply hK;clear K' hK;apply aJ
  simp[au,aG,Post,aW,res1,bF,bC,aP,bg,bf,okT,okA,ok1,rowOf,Tryz.f86];simp[AO,Ju,e];rfl
 obtain⟨n,rfl⟩:∃n:Nat,i=n:=⟨i.toNat,by omega⟩;have hlt:n<t.length:=(by omega);apply aA;refine aR fun K' hK=> ?_
 simp[c1,c2];apply hK;clear K' hK;refine aYk (by simp) ?_;apply aA
 refine fC (fun s G nx=>s 0=rowT Pl.cells t∧s 1=iV n∧s 2=sV name∧s 7=.ptr 0 0∧G 0=some (.var 23 v.cells)∧nx=2∧s 33=bV (!rightF name v)) ?_ ?_
 ·skip;refine aS fun K' hK=> ?_
  simp;refine ak (lF name (by omega)) rfl (by first | rfl | (simp;done) | (simp;rfl) | (simp;exact⟨rfl,rfl⟩)) ?_;cases c3:jq (bsL name)with
  | false=>
   simp;apply hK;clear K' hK;with_reducible refine bP ?_
   simp[mO,c3]
  | true=>
   simp;refine ak (iU v hv) rfl (by first | rfl | (simp;done) | (simp;rfl) | (simp;exact⟨rfl,rfl⟩)) ?_;simp;apply hK;clear K' hK;with_reducible refine bP ?_
   simp[mO,c3]
 rintro s G nx ⟨s0,s1,s2,s7,g0,rfl,s33⟩;cases c3:rightF name v with
 | false=>
  have e:cZ t n name v=1:=(by simp[cZ,c0,hlt,c3]);rw[c3]at s33;refine aX (by simp[s33]) ?_;apply aA;refine aR fun K' hK=> ?_
  simp;apply hK;clear K' hK;apply aJ
  simp[au,aG,Post,aW,res1,bF,bC,aP,bg,bf,okT,okA,ok1,rowOf,Tryz.f86];simp[AO,Ju,e];rfl
 | true=>
 rw[c3]at s33;refine aYk (by simp[s33]) ?_;apply aA;refine aR fun K' hK=> ?_
 simp[s0,s1,s2];refine ak (rH t hl t.length (Nat.le_refl _) n name) rfl (by first | rfl | (simp;done) | (simp;rfl) | (simp;exact⟨rfl,rfl⟩)) ?_;rw[Qy g (by omega)];cases c4:chF t n name with
 | some k=>
  have e:cZ t n name v=152:=(by simp[cZ,c0,hlt,c3,c4]);have h4:(0:Int)≤atI (some k):=(by simp[atI]);simp[h4];apply hK;clear K' hK;refine aX (by simp) ?_;apply aA;refine aR fun K' hK=> ?_
  simp;apply hK;clear K' hK;apply aJ
  simp[au,aG,Post,aW,res1,bF,bC,aP,bg,bf,okT,okA,ok1,rowOf,Tryz.f86];simp[AO,Ju,e];rfl
 | none=>
 have h4:¬(0:Int)≤atI none:=(by simp[atI]);simp[h4];apply hK;clear K' hK;refine aYk (by simp) ?_
 by_cases c5:(200:Int)≤t.length
 ·have e:cZ t n name v=2:=(by simp[cZ,c0,hlt,c3,c4,show 200≤t.length by omega]);apply aA;refine aR fun K' hK=> ?_
  simp[s0,c5];apply hK;clear K' hK;refine aX (by simp) ?_;apply aA;refine aR fun K' hK=> ?_
  simp;apply hK;clear K' hK;apply aJ
  simp[au,aG,Post,aW,res1,bF,bC,aP,bg,bf,okT,okA,ok1,rowOf,Tryz.f86];simp[AO,Ju,e];rfl
 apply aA;refine aR fun K' hK=> ?_
 simp[s0,s1,c5];refine ak (vF t hl n hlt (g.pre hlt)) rfl (by first | rfl | (simp;done) | (simp;rfl) | (simp;exact⟨rfl,rfl⟩)) ?_;by_cases c6:12≤jw t n
 ·have e:cZ t n name v=2:=(by simp[cZ,c0,hlt,c3,c4,c6]);simp[c6];apply hK;clear K' hK;refine aX (by simp) ?_;apply aA;refine aR fun K' hK=> ?_
  simp;apply hK;clear K' hK;apply aJ
  simp[au,aG,Post,aW,res1,bF,bC,aP,bg,bf,okT,okA,ok1,rowOf,Tryz.f86];simp[AO,Ju,e];rfl
 have e:cZ t n name v=0:=(by simp[cZ,c0,hlt,c3,c4,c6];omega);simp[c6];apply hK;clear K' hK;refine aYk (by simp) ?_;refine aR fun K' hK=> ?_
 simp[s0];refine aO (Ah t hl) (by first | rfl | (simp;done) | (simp;rfl) | (simp;exact⟨rfl,rfl⟩)) ?_;simp[bK];apply hK;clear K' hK;have b1:t.length+1≤9223372036854775807:=(by omega);have b2:(t.length+1)*64≤140737488355328:=(by omega);refine aR fun K' hK=> ?_
 simp[s1,s2,s7,g0,b1,b2,bQ,dA,Ver.cells,Oa];apply hK;clear K' hK;refine aR fun K' hK=> ?_
 simp[s0];apply hK;clear K' hK;apply aF
 simp[au,aG,Post,aW,res1,bF,bC,aP,bg,bf,okT,okA,ok1,rowOf,Tryz.f86];have e1:AO t n name v=t++[⟨n,name,v⟩]:=(by rw[AO,if_pos e];rfl);refine⟨[4],⟨⟨by rw[e1];simp,by rw[Ju,if_pos e],e.symm⟩,rfl⟩,?_⟩;rw[e1,←dV];rfl
set_option maxHeartbeats 400000
def ltB (a b:Bs):Bool:=decide (bsL a<bsL b)
@[simp] theorem str_lss (P:Program) (t:TypeId) (a b:Bs):iZ P .lss t (.string a) (.string b)=some (.bool (ltB a b)):=by
 simp only[iZ,bytesLess_eq,pI,ltB]
theorem Ic (a b:List UInt8):(!(decide (a<b) || a==b))=decide (b<a):=by
 rw[Bool.eq_iff_iff];simp only[Bool.not_eq_true',Bool.or_eq_false_iff,decide_eq_false_iff_not,beq_eq_false_iff_ne,decide_eq_true_eq];constructor
 ·rintro⟨h1,h2⟩;apply Classical.byContradiction;intro h3;exact h2 (List.le_antisymm (List.not_lt.1 h3) (List.not_lt.1 h1))
 ·intro h;exact⟨List.lt_asymm h,fun e=>by subst e;exact List.lt_irrefl _ h⟩
@[simp] theorem str_gtr (P:Program) (t:TypeId) (a b:Bs):iZ P .gtr t (.string a) (.string b)=some (.bool (ltB b a)):=by
 simp only[iZ,bytesLess_eq,pI,ltB];rw[Ic]
@[simp] theorem str_geq (P:Program) (t:TypeId) (a b:Bs):iZ P .geq t (.string a) (.string b)=some (.bool (!ltB a b)):=by
 simp only[iZ,bytesLess_eq,pI,ltB]
@[simp] theorem str_leq (P:Program) (t:TypeId) (a b:Bs):iZ P .leq t (.string a) (.string b)=some (.bool (!ltB b a)):=by
 simp only[iZ,bytesLess_eq,pI,ltB];rw[←Ic (bsL a) (bsL b),Bool.not_not]
theorem zq (a:Bs):ltB a a=false:=by
 unfold ltB;exact decide_eq_false (List.lt_irrefl _)
theorem GR {a b:Bs} (h:ltB a b=true):ltB b a=false:=by
 unfold ltB at h⊢;exact decide_eq_false (List.lt_asymm (of_decide_eq_true h))
theorem RS {a b:Bs} (h1:ltB a b=false) (h2:ltB b a=false):a=b:=by
 unfold ltB at h1 h2;exact nD (List.le_antisymm (List.not_lt.1 (of_decide_eq_false h2)) (List.not_lt.1 (of_decide_eq_false h1)))
theorem BJ {a b c:Bs} (h1:ltB a b=true) (h2:ltB b c=true):ltB a c=true:=by
 unfold ltB at h1 h2⊢;exact decide_eq_true (List.lt_trans (of_decide_eq_true h1) (of_decide_eq_true h2))
def gB (a b:Int):Int:=if a<b then-1 else if b<a then 1 else 0
def lX (a b:Bs):Int:=if ltB a b=true then-1 else if ltB b a=true then 1 else 0
theorem iL (a:Int):gB a a=0:=by simp[gB]
theorem qH (a:Bs):lX a a=0:=by simp[lX,zq]
theorem wI {a b:Bs} :lX a b=0↔a=b:=by
 constructor
 ·intro h;unfold lX at h;split at h
  ·cases h
  ·rename_i h1;split at h
   ·cases h
   ·rename_i h2;exact RS (by simpa using h1) (by simpa using h2)
 ·rintro rfl;exact qH a
def fZ (a b:Bs):Int:=if kH (bsL a)=true then(if kH (bsL b)=true then gB (qy (bsL a)) (qy (bsL b))else-1)else if kH (bsL b)=true then 1 else lX a b
theorem FD (a:Bs):fZ a a=0:=by
 unfold fZ;split
 ·exact iL _
 ·exact qH _
def ig:List Bs→List Bs→Int
 | a::x,b::y=>if fZ a b=0 then ig x y else fZ a b
 | x,y=>gB x.length y.length
theorem sN:∀x:List Bs,ig x x=0
 | []=>rfl
 | a::x=>by rw[ig,if_pos (FD a),sN x]
def mM (a b:Ver):Int:=if gB a.maj b.maj≠0 then gB a.maj b.maj else if gB a.min b.min≠0 then gB a.min b.min else gB a.pat b.pat
def dS (a b:Ver):Int:=if fD a=true∧fD b=true then
  (if mM a b≠0∨a.pre=b.pre then mM a b else if a.pre=⟨#[]⟩then 1 else if b.pre=⟨#[]⟩then-1 else ig (strs (spl (bsL a.pre))) (strs (spl (bsL b.pre))))
 else 0
theorem CZ:∀(l:List UInt8) (acc k:Nat),l.all xB=true→acc<10^k→k+l.length≤17→∃u,Lib.parseUint10 acc l=.ok u∧(u:Int)=l.foldl (fun n c=>10*n+((c.toNat:Int)-48)) acc∧u<10^(k+l.length)
 | [],acc,k,_,ha,_=>⟨acc,rfl,rfl,by simpa using ha⟩
 | c::r,acc,k,hl,ha,hk=>by
  rw[List.all_cons,Bool.and_eq_true]at hl;obtain⟨hc,hr⟩:=hl;simp[xB]at hc;simp only[List.length_cons]at hk;have hp:(10:Nat)^k≤10^16:=Nat.pow_le_pow_right (by decide) (by omega);have hp2:(10:Nat)^16=10000000000000000:=(by decide);have hnew:acc*10+(c.toNat-48)<10^(k+1):=(by rw[Nat.pow_succ];omega);obtain⟨u,h1,h2,h3⟩:=CZ r (acc*10+(c.toNat-48)) (k+1) hr hnew (by omega);refine⟨u,?_,?_,?_⟩
  ·rw[Lib.parseUint10,if_pos (by omega),if_neg (by omega),if_neg (by omega)];exact h1
  ·rw[h2,List.foldl_cons];congr 1;omega
  ·rw[List.length_cons];have e:k+(r.length+1)=k+1+r.length:=(by omega);rw[e];exact h3
theorem Oq {l:List UInt8} (hd:l.all xB=true) (hne:l≠[]) (hl:l.length≤17):qy l=JV l:=by
 obtain⟨u,h1,h2,h3⟩:=CZ l 0 0 hd (by decide) (by omega);cases l with
 | nil=>exact absurd rfl hne
 | cons c r=>
  rw[List.all_cons,Bool.and_eq_true]at hd;have hc:=hd.1;simp[xB]at hc;have hm:Lib.parseMag (c::r)=.ok u:=(by rw[Lib.parseMag,if_neg (by simp)];exact h1);have hp:(10:Nat)^(0+(c::r).length)≤10^17:=Nat.pow_le_pow_right (by decide) (by omega);have hp2:(10:Nat)^17=100000000000000000:=(by decide);have ha:Lib.atoiAll (c::r)=.ok (u:Int):=by
   unfold Lib.atoiAll;have c1:¬c.toNat=43:=(by omega);have c2:¬c.toNat=45:=(by omega);simp only[c1,c2,or_self,if_false,hm,not_false_eq_true,true_and,false_and];rw[if_neg (by omega)]
  unfold qy;rw[ha];exact h2
theorem Hz:∀(k:Nat) (l:List UInt8),l.count 46≤k→Lib.splitK [46] 0 k l=spl l
 | 0,l,h=>by
  have hm:(46:UInt8)∉l:=by
   intro hm;have:=List.count_pos_iff.2 hm;omega
  rw[Lib.splitK,sJ hm]
 | k+1,l,h=>by
  rw[Lib.splitK,Lib.index_one];by_cases hm:(46:UInt8)∈l
  ·obtain⟨a,r,h1,rfl⟩:=qV hm;have hne:((a.length:Int)== -1)=false:=(by rw[beq_eq_false_iff_ne];omega);rw[EZ h1,hne,BU h1];simp only[Bool.false_eq_true,if_false,Int.toNat_natCast,Nat.add_zero,List.length_singleton];rw[List.take_left',show(a++46::r).drop (a.length+1)=r by simp,Hz k r]
   ·have:(a++46::r).count 46=r.count 46+1:=by
     rw[List.count_append,List.count_eq_zero_of_not_mem h1,List.count_cons_self];omega
    omega
   ·rfl
  ·rw[wK hm,sJ hm];rfl
end Go.Proofs.YtmmbgjmigmchbaaGreatDoorAbs
