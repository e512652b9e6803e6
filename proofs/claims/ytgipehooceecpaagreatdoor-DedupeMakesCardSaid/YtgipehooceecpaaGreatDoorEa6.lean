/- Versions: how they stand to one another, in plain words. -/
import Derived.Test.YtgipehooceecpaaGreatDoorEa5
import Derived.Shelf.Strings.SlTrimAscii
import Derived.WalkSmall
import Derived.Lib.AtoiErrMem
import Derived.Lib.AppendIntMem
import Derived.Test.YtgipehooceecpaaGreatDoorEa2
import Derived.Lib.ItoaLen
import Derived.Test.YtgipehooceecpaaGreatDoorEa3
import Derived.Lib.Split
namespace Go.Proofs.YtgipehooceecpaaGreatDoorAbs
set_option linter.unusedSimpArgs false
set_option linter.unusedVariables false
open Go Go.RowKit Go.Proofs
set_option maxRecDepth 100000
theorem indexByte80 (s:Bs) (c:Int):CallsOK Tryz.prog 225 [sV s,.v (.int .u8 c)] (iV (Lib.indexByte (bsL s) c.toNat.toUInt8)) []:=
 libV (xs:=[.string s,.int .u8 c]) rfl Tryz.call225 fun w _=>Tryz.strings_IndexByte s c w
theorem cutPrefix67 (s p:Bs):CallsOK Tryz.prog 187 [sV s,sV p] (.tup [sV (ofL (Lib.trimPrefix (bsL s) (bsL p))),bV (Lib.hasPrefix (bsL s) (bsL p))]) []:=
 libT (xs:=[.string s,.string p]) (us:=[.string (ofL (Lib.trimPrefix (bsL s) (bsL p))),.bool (Lib.hasPrefix (bsL s) (bsL p))]) (by simp) Tryz.call187 fun w _=>Tryz.strings_CutPrefix s p w
theorem index95 (s:Bs) (c:UInt8):CallsOK Tryz.prog 250 [sV s,sV ⟨#[c]⟩] (iV (Lib.indexByte (bsL s) c)) []:=
 libV (xs:=[.string s,.string ⟨#[c]⟩]) rfl Tryz.call250 fun w _=>Tryz.strings_Index_one s c w
theorem cut69 (s p:Bs) (hs:s.size<4294967281):CallsOK Tryz.prog 189 [sV s,sV p] (.tup [sV (ofL (Lib.cut (bsL s) (bsL p)).1),sV (ofL (Lib.cut (bsL s) (bsL p)).2.1),bV (Lib.cut (bsL s) (bsL p)).2.2]) []:=
 libOK (xs:=[.string s,.string p]) rfl Tryz.call189 fun w hw=>by
  obtain⟨m,hm⟩:=hw.2.2.2.1;refine(Tryz.strings_Cut s p m w hs hm).mono ?_;rintro e w' ⟨rfl,n,rfl⟩;exact⟨_,rfl,fun E w'=>vr_tup (us:=[.string (ofL (Lib.cut (bsL s) (bsL p)).1),.string (ofL (Lib.cut (bsL s) (bsL p)).2.1),.bool (Lib.cut (bsL s) (bsL p)).2.2]) (by simp),below_drewN (Below.refl _ _) n⟩
def digs:List UInt8:=[48,49,50,51,52,53,54,55,56,57]
theorem trim96 (s:Bs) (hs:s.size≤9223372036854775807):CallsOK Tryz.prog 251 [sV s,sV ⟨#[48,49,50,51,52,53,54,55,56,57]⟩] (sV (ofL (Lib.trimS (bsL s) digs))) []:=
 libOK (xs:=[.string s,.string ⟨#[48,49,50,51,52,53,54,55,56,57]⟩]) rfl Tryz.call251 fun w _=>by
  refine(Any.strings_Trim_laid Tryz.lays160 (by kernel_rfl) s ⟨#[48,49,50,51,52,53,54,55,56,57]⟩ w hs (by decide) (ascii_of_all (by decide))).mono ?_;rintro e w' ⟨rfl,hb⟩;exact⟨_,rfl,fun _ _=> .tree (.v rfl),hb⟩
theorem itoa66 (n:Int) (h0: -9223372036854775808≤n) (h1:n≤9223372036854775807):CallsOK Tryz.prog 175 [iV n] (sV (ofL (Lib.itoa n))) []:=
 libOK (xs:=[.int .i64 n]) rfl Tryz.call175 fun w hw=>by
  refine(Tryz.strconv_Itoa n h0 h1 w hw.1).mono ?_;rintro e w' ⟨rfl,k,os,rfl⟩;exact⟨_,rfl,fun _ _=> .tree (.v rfl),Lib.below_grow _ _ (Nat.le_refl _) _ _⟩
def atoiN (l:List UInt8):Int:=match Lib.atoiAll l with
 | .ok v=>v
 | .range=>Lib.atoiSat l
 | _=>0
theorem vr_num {E:En} {w:World} {n:Int} {u:Value} :VR Tryz.prog E w (.tup [iV n,.any]) (.tuple #[.int .i64 n,u]):=
 .tup (us:=[.int .i64 n,u]) rfl fun i a x ha hx=>by
  match i,ha,hx with
  | 0,ha,hx=>simp at ha hx;subst ha;subst hx;exact .tree (.v rfl)
  | 1,ha,hx=>simp at ha hx;subst ha;exact .any _
  | i+2,ha,hx=>simp at ha
theorem atoi97 (s:Bs) (hs:s.size≤281474976710656):CallsOK Tryz.prog 252 [sV s] (.tup [iV (atoiN (bsL s)),.any]) []:=
 libOK (xs:=[.string s]) rfl Tryz.call252 fun w hw=>by
  obtain⟨_,⟨tp,p,h1⟩,⟨tp2,p2,h2⟩,_⟩:=hw;unfold atoiN;cases h:Lib.atoiAll (bsL s)with
  | ok v=>
   refine(Tryz.strconv_Atoi_ok s (by omega) v h w).mono ?_;rintro e w' ⟨rfl,rfl | ⟨t,rfl⟩⟩
   ·exact⟨_,rfl,fun _ _=>vr_num,Below.refl _ _⟩
   ·exact⟨_,rfl,fun _ _=>vr_num,Lib.bytesWorld_below _ _ _⟩
  | range=>
   refine(Tryz.strconv_Atoi_range_var s hs h tp2 p2 w h2).mono ?_;rintro e w' ⟨N,rfl,_,_,hb⟩;exact⟨_,rfl,fun _ _=>vr_num,hb⟩
  | _=>
   refine(Tryz.strconv_Atoi_syntax_var s hs h tp p w h1).mono ?_;rintro e w' ⟨N,rfl,_,_,hb⟩;exact⟨_,rfl,fun _ _=>vr_num,hb⟩
set_option maxRecDepth 100000
set_option maxHeartbeats 4000000
def by8 (l:List UInt8) (i:Nat):UInt8:=l.getD i 0
def wordB (c:UInt8):Bool:=decide ((97:Int)≤(c.toNat:Int)∧(c.toNat:Int)≤122) || decide ((48:Int)≤(c.toNat:Int)∧(c.toNat:Int)≤57)
def sepB (c:UInt8):Bool:=decide (c=45) || decide (c=95) || decide (c=46)
def plAt (l:List UInt8) (i:Nat):Bool:=wordB (by8 l i) || (!decide (i=0)&&sepB (by8 l i))
def plainF (l:List UInt8):Bool:=(List.range l.length).all (plAt l)&& !decide (l=[])
theorem range_all {p:Nat→Bool} {i:Nat} :(List.range (i+1)).all p=((List.range i).all p&&p i):=by
 rw[List.range_succ,List.all_append];simp
theorem range_false {p:Nat→Bool} {n i:Nat} (h:i<n) (hp:p i=false):(List.range n).all p=false:=by
 rw[List.all_eq_false];exact⟨i,List.mem_range.2 h,by simp[hp]⟩
theorem sep_index (c:UInt8):decide (Lib.indexByte [45,95,46] c<0)= !sepB c:=by
 unfold sepB;by_cases h1:c=45
 ·subst h1;rfl
 ·by_cases h2:c=95
  ·subst h2;rfl
  ·by_cases h3:c=46
   ·subst h3;rfl
   ·have e1:((45:UInt8)==c)=false:=(by simpa using fun h=>h1 h.symm);have e2:((95:UInt8)==c)=false:=(by simpa using fun h=>h2 h.symm);have e3:((46:UInt8)==c)=false:=(by simpa using fun h=>h3 h.symm);simp[Lib.indexByte,e1,e2,e3,h1,h2,h3]
theorem back8 (c:UInt8):((c.toNat:Int).toNat).toUInt8=c:=by simp
theorem empty_iff (s:Bs):s=⟨#[]⟩↔bsL s=[]:=⟨fun h=>by rw[h];rfl,fun h=>bsL_inj h⟩
theorem plain68_ok (s:Bs) (hs:s.size≤4611686018427387904):CallsOK Tryz.prog 188 [sV s] (bV (plainF (bsL s))) []:=by
 refine callsOK mixed Tryz.call188 Tryz.func188 rfl (by rw[Tryz.ntmps188];simp) ?_ rfl;rw[Tryz.ntmps188];have hl:(bsL s).length=s.size:=bsL_len s;with_reducible refine aR fun K' hK=> ?_
 simp;refine hK _ _ _ ?_;clear K' hK;with_reducible refine aA ?_;refine aR fun K' hK=> ?_
 simp;refine hK _ _ _ ?_;clear K' hK;with_reducible refine aw_block ?_
 refine aw_loop (fun t G nx=>t 0=sV s∧t 7=iV s.size∧∃i:Nat,t 8=iV i∧i≤s.size∧(List.range i).all (plAt (bsL s))=true) (fun s' _ _=>match s' 8 with | .v (.int _ n)=>s.size-n.toNat | _=>0) ?_ ?_
 ·exact⟨by simp,by simp,0,by simp,by omega,by simp⟩
 ·rintro t G nx-⟨t0,t7,i,t8,hi,ht⟩;have hw:IntKind.i64.wrap (↑i+1)=((i+1:Nat):Int):=wrapS (by omega);with_reducible refine aR fun K' hK=> ?_
  simp[t7,t8];refine hK _ _ _ ?_;clear K' hK;with_reducible refine aC fun A B hA hB=> ?_
  simp;refine⟨fun hi2=>hA ?_,fun hi2=>hB ?_⟩<;>clear hA hB A B<;>(try simp at hi2)<;>(try with_reducible refine aK ?_)
  ·skip;with_reducible refine aw_block ?_;refine aR fun K' hK=> ?_
   simp[t8];refine hK _ _ _ ?_;clear K' hK;with_reducible refine aR fun K' hK=> ?_
   simp[t0,t8,hi2];refine hK _ _ _ ?_;clear K' hK;generalize hc:byteA s i=c;have hcc:by8 (bsL s) i=c:=hc;refine aw_cut (fun t' G' nx'=>t' 0=sV s∧t' 3=iV i∧t' 4=.v (.int .u8 c.toNat)∧t' 5=bV (wordB c)∧t' 7=iV s.size∧t' 8=iV i) ?_ ?_
   ·by_cases a1:(97:Int)≤(c.toNat:Int)
    ·by_cases a2:(c.toNat:Int)≤122
     ·skip;with_reducible refine aS fun K' hK=> ?_
      simp[a1,a2];refine hK _ _ _ ?_;clear K' hK;with_reducible refine aw_end ?_
      simp[t0,t7,t8,wordB,a1,a2]
     ·have a3:¬(c.toNat:Int)≤57:=(by omega);by_cases a4:(48:Int)≤(c.toNat:Int)
      ·skip;with_reducible refine aS fun K' hK=> ?_
       simp[a1,a2,a3,a4];refine hK _ _ _ ?_;clear K' hK;with_reducible refine aw_end ?_
       simp[t0,t7,t8,wordB,a1,a2,a3]
      ·omega
    ·by_cases a4:(48:Int)≤(c.toNat:Int)
     ·by_cases a3:(c.toNat:Int)≤57
      ·skip;with_reducible refine aS fun K' hK=> ?_
       simp[a1,a3,a4];refine hK _ _ _ ?_;clear K' hK;with_reducible refine aw_end ?_
       simp[t0,t7,t8,wordB,a1,a3,a4]
      ·skip;with_reducible refine aS fun K' hK=> ?_
       simp[a1,a3,a4];refine hK _ _ _ ?_;clear K' hK;with_reducible refine aw_end ?_
       simp[t0,t7,t8,wordB,a1,a3]
     ·skip;with_reducible refine aS fun K' hK=> ?_
      simp[a1,a4];refine hK _ _ _ ?_;clear K' hK;with_reducible refine aw_end ?_
      simp[t0,t7,t8,wordB,a1,a4]
   ·rintro u G' nx' ⟨u0,u3,u4,u5,u7,u8⟩;cases hwd:wordB c with
    | true=>
     rw[hwd]at u5;with_reducible refine aR fun K' hK=> ?_
     simp[u5];refine hK _ _ _ ?_;clear K' hK;with_reducible refine aVk (by simp) ?_;refine aw_skipL ?_
     refine blockK_normal ?_;with_reducible refine aS fun K' hK=> ?_
     simp[u8,hw];refine hK _ _ _ ?_;clear K' hK;refine aw_skipL (loopK_normal ?_ ?_)
     ·exact⟨by simp[u0],by simp[u7],i+1,by simp[hw],by omega,by rw[range_all,ht];simp[plAt,hcc,hwd]⟩
     ·simp[t8,u8,hw];omega
    | false=>
     rw[hwd]at u5;cases i with
     | zero=>
      with_reducible refine aR fun K' hK=> ?_
      simp[u3,u5];refine hK _ _ _ ?_;clear K' hK;with_reducible refine aU (by simp) ?_;refine aA ?_;refine aR fun K' hK=> ?_
      simp;refine hK _ _ _ ?_;clear K' hK;with_reducible refine aw_ret ?_
      simp[blockK,loopK,Post,resA,res1,expT,expA,exp1,expM,expL,okT,okA,ok1,rowOf,Tryz.f188];simp only[plainF,range_false (i:=0) (n:=(bsL s).length) (by omega) (show plAt (bsL s) 0=false by simp[plAt,hcc,hwd]),Bool.false_and]
     | succ j=>
      have hj0:¬((j:Int)+1=0):=(by omega);with_reducible refine aR fun K' hK=> ?_
      simp[u3,u4,u5,hj0];refine acall_flat (indexByte80 ⟨#[45,95,46]⟩ c.toNat) rfl rfl ?_;have hsep:decide (Lib.indexByte (bsL ⟨#[45,95,46]⟩) (c.toNat:Int).toNat.toUInt8<0)= !sepB c:=(by rw[back8];exact sep_index c);generalize Lib.indexByte (bsL ⟨#[45,95,46]⟩) (c.toNat:Int).toNat.toUInt8=q at hsep;cases hsp:sepB c with
      | true=>
       rw[hsp]at hsep;have hq:¬q<0:=(by simpa using hsep);simp[hq];refine hK _ _ _ ?_;clear K' hK;with_reducible refine aVk (by simp) ?_;refine aw_skipL ?_
       refine blockK_normal ?_;with_reducible refine aS fun K' hK=> ?_
       simp[u8,hw];refine hK _ _ _ ?_;clear K' hK;refine aw_skipL (loopK_normal ?_ ?_)
       ·refine⟨by simp[u0],by simp[u7],j+1+1,?_,by omega,by rw[range_all,ht];simp[plAt,hcc,hsp]⟩;have:IntKind.i64.wrap ((j:Int)+1+1)=(j:Int)+1+1:=wrap64 (by omega) (by omega);simp[this]
       ·have:IntKind.i64.wrap ((j:Int)+1+1)=(j:Int)+1+1:=wrap64 (by omega) (by omega);simp[t8,u8,this];omega
      | false=>
       rw[hsp]at hsep;have hq:q<0:=(by simpa using hsep);simp[hq];refine hK _ _ _ ?_;clear K' hK;with_reducible refine aU (by simp) ?_;refine aA ?_;refine aR fun K' hK=> ?_
       simp;refine hK _ _ _ ?_;clear K' hK;with_reducible refine aw_ret ?_
       simp[blockK,loopK,Post,resA,res1,expT,expA,exp1,expM,expL,okT,okA,ok1,rowOf,Tryz.f188];simp only[plainF,range_false (i:=j+1) (n:=(bsL s).length) (by omega) (show plAt (bsL s) (j+1)=false by simp[plAt,hcc,hwd,hsp]),Bool.false_and]
  ·skip;with_reducible refine aw_exit ?_
   refine loopK_exit (blockK_exit ?_);with_reducible refine aR fun K' hK=> ?_
   simp[t0];refine hK _ _ _ ?_;clear K' hK;with_reducible refine aw_retL ?_
   simp[blockK,loopK,Post,resA,res1,expT,expA,exp1,expM,expL,okT,okA,ok1,rowOf,Tryz.f188];have:i=(bsL s).length:=(by omega);rw[this]at ht;simp[plainF,ht,empty_iff]
set_option maxRecDepth 100000
set_option maxHeartbeats 4000000
def nodeL:List UInt8:=[110,111,100,101,95,109,111,100,117,108,101,115]
def goodF (l:List UInt8):Bool:=if 40<l.length∨l=nodeL then false else if Lib.hasPrefix l [64]=false then plainF l else
 let c:=Lib.cut (Lib.trimPrefix l [64]) [47]
 c.2.2&&(plainF c.1&&plainF c.2.1)
theorem ofL_size (l:List UInt8):(ofL l).size=l.length:=by simp[ofL,ByteArray.size]
theorem trimPrefix_le (l p:List UInt8):(Lib.trimPrefix l p).length≤l.length:=by
 unfold Lib.trimPrefix;split<;>simp
theorem cut_le (l p:List UInt8):(Lib.cut l p).1.length≤l.length∧(Lib.cut l p).2.1.length≤l.length:=by
 unfold Lib.cut;split
 ·simp;omega
 ·simp
theorem good52_ok (s:Bs) (hs:s.size≤4000000000):CallsOK Tryz.prog 151 [sV s] (bV (goodF (bsL s))) []:=by
 refine callsOK mixed Tryz.call151 Tryz.func151 rfl (by rw[Tryz.ntmps151];simp) ?_ rfl;rw[Tryz.ntmps151];have hl:(bsL s).length=s.size:=bsL_len s;have hn:(s=⟨#[110,111,100,101,95,109,111,100,117,108,101,115]⟩)↔bsL s=nodeL:=⟨fun h=>by rw[h];rfl,fun h=>bsL_inj (by rw[h];rfl)⟩;with_reducible refine aR fun K' hK=> ?_
 simp;refine hK _ _ _ ?_;clear K' hK;by_cases h1:(40:Int)<s.size
 ·with_reducible refine aA ?_;refine aR fun K' hK=> ?_
  simp[h1];refine hK _ _ _ ?_;clear K' hK;with_reducible refine aX (by simp) ?_;refine aA ?_;refine aR fun K' hK=> ?_
  simp;refine hK _ _ _ ?_;clear K' hK;with_reducible refine aw_ret ?_
  simp[blockK,loopK,Post,resA,res1,expT,expA,exp1,expM,expL,okT,okA,ok1,rowOf,Tryz.f151];rw[goodF,if_pos (.inl (by omega))]
 ·by_cases h2:s=⟨#[110,111,100,101,95,109,111,100,117,108,101,115]⟩
  ·with_reducible refine aA ?_;refine aR fun K' hK=> ?_
   simp[h1,h2];refine hK _ _ _ ?_;clear K' hK;with_reducible refine aX (by simp) ?_;refine aA ?_;refine aR fun K' hK=> ?_
   simp;refine hK _ _ _ ?_;clear K' hK;with_reducible refine aw_ret ?_
   simp[blockK,loopK,Post,resA,res1,expT,expA,exp1,expM,expL,okT,okA,ok1,rowOf,Tryz.f151];rw[goodF,if_pos (.inr (hn.1 h2))]
  ·have hg:goodF (bsL s)=if Lib.hasPrefix (bsL s) [64]=false then plainF (bsL s)else(Lib.cut (Lib.trimPrefix (bsL s) [64]) [47]).2.2&&(plainF (Lib.cut (Lib.trimPrefix (bsL s) [64]) [47]).1&&plainF (Lib.cut (Lib.trimPrefix (bsL s) [64]) [47]).2.1):=by
    rw[goodF,if_neg (by
     rintro(h | h)
     ·omega
     ·exact h2 (hn.2 h))]
   rw[hg];with_reducible refine aA ?_;refine aR fun K' hK=> ?_
   simp[h1,h2];refine hK _ _ _ ?_;clear K' hK;with_reducible refine aYk (by simp) ?_;refine aR fun K' hK=> ?_
   simp;refine acall_flat (cutPrefix67 s ⟨#[64]⟩) rfl rfl ?_;simp;refine hK _ _ _ ?_;clear K' hK;cases hp:Lib.hasPrefix (bsL s) [64]with
   | false=>
    have hp':Lib.hasPrefix (bsL s) (bsL ⟨#[64]⟩)=false:=hp;with_reducible refine aA ?_;refine aR fun K' hK=> ?_
    simp[hp'];refine hK _ _ _ ?_;clear K' hK;with_reducible refine aX (by simp) ?_;refine aA ?_;refine aR fun K' hK=> ?_
    simp;refine acall_flat (plain68_ok s (by omega)) rfl (by simp) ?_;simp;refine hK _ _ _ ?_;clear K' hK;with_reducible refine aw_ret ?_
    simp[blockK,loopK,Post,resA,res1,expT,expA,exp1,expM,expL,okT,okA,ok1,rowOf,Tryz.f151]
   | true=>
    have hp':Lib.hasPrefix (bsL s) (bsL ⟨#[64]⟩)=true:=hp;have e1:Lib.trimPrefix (bsL s) (bsL ⟨#[64]⟩)=Lib.trimPrefix (bsL s) [64]:=rfl;have hlt:=trimPrefix_le (bsL s) [64];generalize Lib.trimPrefix (bsL s) [64]=r at*;with_reducible refine aA ?_;refine aR fun K' hK=> ?_
    simp[hp',e1];refine hK _ _ _ ?_;clear K' hK;with_reducible refine aYk (by simp) ?_;refine aR fun K' hK=> ?_
    simp;refine acall_flat (cut69 (ofL r) ⟨#[47]⟩ (by rw[ofL_size];omega)) rfl (by simp) ?_;simp;refine hK _ _ _ ?_;clear K' hK;have e2:bsL ⟨#[47]⟩=[47]:=rfl;have hcl:=cut_le r [47];rw[e2];generalize Lib.cut r [47]=q at*;obtain⟨q1,q2,q3⟩:=q;cases q3 with
    | false=>
     with_reducible refine aR fun K' hK=> ?_
     simp;refine hK _ _ _ ?_;clear K' hK;with_reducible refine aw_retL ?_
     simp[blockK,loopK,Post,resA,res1,expT,expA,exp1,expM,expL,okT,okA,ok1,rowOf,Tryz.f151]
    | true=>
     with_reducible refine aR fun K' hK=> ?_
     simp;refine acall_flat (plain68_ok (ofL q1) (by rw[ofL_size];simp only at hcl;omega)) rfl (by simp) ?_;cases hp1:plainF q1 with
     | false=>
      simp[hp1];refine hK _ _ _ ?_;clear K' hK;with_reducible refine aw_retL ?_
      simp[blockK,loopK,Post,resA,res1,expT,expA,exp1,expM,expL,okT,okA,ok1,rowOf,Tryz.f151,hp1]
     | true=>
      simp[hp1];refine acall_flat (plain68_ok (ofL q2) (by rw[ofL_size];simp only at hcl;omega)) rfl (by simp) ?_;cases hp2:plainF q2<;>simp[hp2]
      ·refine hK _ _ _ ?_;clear K' hK;with_reducible refine aw_retL ?_
       simp[blockK,loopK,Post,resA,res1,expT,expA,exp1,expM,expL,okT,okA,ok1,rowOf,Tryz.f151,hp1,hp2]
      ·refine hK _ _ _ ?_;clear K' hK;with_reducible refine aw_retL ?_
       simp[blockK,loopK,Post,resA,res1,expT,expA,exp1,expM,expL,okT,okA,ok1,rowOf,Tryz.f151,hp1,hp2]
def numP (l:List UInt8):Bool:= !decide (l=[])&&decide (Lib.trimS l digs=[])
def numOk (l:List UInt8):Bool:=numP l&&(decide (l.length≤6)&&(!decide (by8 l 0=48) || decide (l=[48])))
theorem number87_ok (s:Bs) (hs:s.size≤4000000000):CallsOK Tryz.prog 232 [sV s] (.tup [iV (atoiN (bsL s)),bV (numP (bsL s)),bV (numOk (bsL s))]) []:=by
 refine callsOK mixed Tryz.call232 Tryz.func232 rfl (by rw[Tryz.ntmps232];simp) ?_ rfl;rw[Tryz.ntmps232];have hl:(bsL s).length=s.size:=bsL_len s;have h0:(s=⟨#[48]⟩)↔bsL s=[48]:=⟨fun h=>by rw[h];rfl,fun h=>bsL_inj (by rw[h];rfl)⟩;with_reducible refine aR fun K' hK=> ?_
 simp;refine hK _ _ _ ?_;clear K' hK;refine aw_cut (fun t G nx=>t 0=sV s∧t 3=bV (numP (bsL s))) ?_ ?_
 ·by_cases he:s=⟨#[]⟩
  ·have:numP (bsL s)=false:=(by simp[numP,(empty_iff s).1 he]);with_reducible refine aS fun K' hK=> ?_
   simp[he];refine hK _ _ _ ?_;clear K' hK;with_reducible refine aw_end ?_
   simp[he];rw[he]at this;exact this
  ·have hne:¬bsL s=[]:=fun h=>he ((empty_iff s).2 h);with_reducible refine aS fun K' hK=> ?_
   simp[he];refine acall_flat (trim96 s (by omega)) rfl rfl ?_;simp;refine hK _ _ _ ?_;clear K' hK;with_reducible refine aw_end ?_
   have e1:(ofL (Lib.trimS (bsL s) digs)=⟨#[]⟩)↔Lib.trimS (bsL s) digs=[]:=(by rw[empty_iff,bsL_ofL]);simp[numP,hne,e1]
 ·rintro t G nx ⟨t0,t3⟩;refine aw_cut (fun t G nx=>t 0=sV s∧t 3=bV (numP (bsL s))∧t 4=bV (numOk (bsL s))) ?_ ?_
  ·cases hp:numP (bsL s)with
   | false=>
    rw[hp]at t3;with_reducible refine aS fun K' hK=> ?_
    simp[t0,t3];refine hK _ _ _ ?_;clear K' hK;with_reducible refine aw_end ?_
    simp[t0,t3,numOk,hp]
   | true=>
    rw[hp]at t3;have hne:¬bsL s=[]:=fun h=>(by simp[numP,h]at hp);have hpos:(0:Int)<s.size:=by
     have:0<(bsL s).length:=List.length_pos_iff.2 hne;omega
    have hposN:0<s.size:=(by omega);by_cases h6:(s.size:Int)≤6
    ·have h6':(bsL s).length≤6:=(by omega);generalize hc:byteA s 0=c;have hcc:by8 (bsL s) 0=c:=hc;by_cases hz:c=48
     ·have hz':((c.toNat:Int)=48):=(by rw[hz];rfl);by_cases h48:s=⟨#[48]⟩
      ·subst h48;with_reducible refine aS fun K' hK=> ?_
       simp[t0,t3];refine hK _ _ _ ?_;clear K' hK;with_reducible refine aw_end ?_
       simp[t0,t3,numOk,hp];rfl
      ·have h48':¬bsL s=[48]:=fun h=>h48 (h0.2 h);with_reducible refine aS fun K' hK=> ?_
       simp[t0,t3,h6,hpos,hposN,hc,hz',h48,sV];refine hK _ _ _ ?_;clear K' hK;with_reducible refine aw_end ?_
       simp[t0,t3,numOk,hp,h6',hcc,hz,h48']
     ·have hz':¬((c.toNat:Int)=48):=fun h=>hz (by
       have:c.toNat=48:=(by omega);exact UInt8.toNat_inj.1 this)
      with_reducible refine aS fun K' hK=> ?_
      simp[t0,t3,h6,hpos,hposN,hc,hz',sV];refine hK _ _ _ ?_;clear K' hK;with_reducible refine aw_end ?_
      simp[t0,t3,numOk,hp,h6',hcc,hz]
    ·have h6':¬(bsL s).length≤6:=(by omega);with_reducible refine aS fun K' hK=> ?_
     simp[t0,t3,h6];refine hK _ _ _ ?_;clear K' hK;with_reducible refine aw_end ?_
     simp[t0,t3,numOk,hp,h6'];done
  ·clear t0 t3;rintro t G nx ⟨t0,t3,t4⟩;with_reducible refine aR fun K' hK=> ?_
   simp[t0];refine acall_flat (atoi97 s (by omega)) rfl (by simp) ?_;simp;refine hK _ _ _ ?_;clear K' hK;with_reducible refine aR fun K' hK=> ?_
   simp[t3,t4];refine hK _ _ _ ?_;clear K' hK;with_reducible refine aw_retL ?_
   simp[blockK,loopK,Post,resA,res1,expT,expA,exp1,expM,expL,okT,okA,ok1,rowOf,Tryz.f232]
set_option maxRecDepth 100000
set_option maxHeartbeats 4000000
def lowI (c:UInt8):Int:=bits .or .u8 (c.toNat:Int) 32
def lowB (c:UInt8):Bool:=decide ((97:Int)≤lowI c)&&decide (lowI c≤122)
def partB (c:UInt8):Bool:=lowB c || (decide ((48:Int)≤(c.toNat:Int))&&decide ((c.toNat:Int)≤57)) || decide ((c.toNat:Int)=45)
def partF (l:List UInt8):Bool:=(List.range l.length).all (fun i=>partB (by8 l i))&&(!decide (l=[])&&(decide (l.length≤10)&&(numP l==numOk l)))
@[simp] theorem or32 (c:UInt8):bits .or .u8 (c.toNat:Int) 32=lowI c:=rfl
theorem part76_ok (s:Bs) (hs:s.size≤4000000000):CallsOK Tryz.prog 207 [sV s] (bV (partF (bsL s))) []:=by
 refine callsOK mixed Tryz.call207 Tryz.func207 rfl (by rw[Tryz.ntmps207];simp) ?_ rfl;rw[Tryz.ntmps207];have hl:(bsL s).length=s.size:=bsL_len s;with_reducible refine aR fun K' hK=> ?_
 simp;refine hK _ _ _ ?_;clear K' hK;with_reducible refine aA ?_;refine aR fun K' hK=> ?_
 simp;refine hK _ _ _ ?_;clear K' hK;with_reducible refine aw_block ?_
 refine aw_loop (fun t G nx=>t 0=sV s∧t 10=iV s.size∧∃i:Nat,t 11=iV i∧i≤s.size∧(List.range i).all (fun i=>partB (by8 (bsL s) i))=true) (fun s' _ _=>match s' 11 with | .v (.int _ n)=>s.size-n.toNat | _=>0) ?_ ?_
 ·exact⟨by simp,by simp,0,by simp,by omega,by simp⟩
 ·rintro t G nx-⟨t0,t10,i,t11,hi,ht⟩;have hw:IntKind.i64.wrap (↑i+1)=((i+1:Nat):Int):=wrapS (by omega);with_reducible refine aR fun K' hK=> ?_
  simp[t10,t11];refine hK _ _ _ ?_;clear K' hK;with_reducible refine aC fun A B hA hB=> ?_
  simp;refine⟨fun hi2=>hA ?_,fun hi2=>hB ?_⟩<;>clear hA hB A B<;>(try simp at hi2)<;>(try with_reducible refine aK ?_)
  ·skip;with_reducible refine aw_block ?_;refine aR fun K' hK=> ?_
   simp[t11];refine hK _ _ _ ?_;clear K' hK;with_reducible refine aR fun K' hK=> ?_
   simp[t0,t11,hi2];refine hK _ _ _ ?_;clear K' hK;generalize hc:byteA s i=c;have hcc:by8 (bsL s) i=c:=hc;refine aw_cut (fun t' G' nx'=>t' 0=sV s∧t' 3=iV i∧t' 4=.v (.int .u8 c.toNat)∧t' 5=bV (lowB c)∧t' 10=iV s.size∧t' 11=iV i) ?_ ?_
   ·by_cases a1:(97:Int)≤lowI c
    ·skip;with_reducible refine aS fun K' hK=> ?_
     simp[a1];refine hK _ _ _ ?_;clear K' hK;with_reducible refine aw_end ?_
     simp[t0,t10,t11,lowB,a1]
    ·skip;with_reducible refine aS fun K' hK=> ?_
     simp[a1];refine hK _ _ _ ?_;clear K' hK;with_reducible refine aw_end ?_
     simp[t0,t10,t11,lowB,a1]
   ·rintro u G' nx' ⟨u0,u3,u4,u5,u10,u11⟩;cases hw1:lowB c with
    | true=>
     rw[hw1]at u5;with_reducible refine aR fun K' hK=> ?_
     simp[u4,u5];refine hK _ _ _ ?_;clear K' hK;with_reducible refine aVk (by simp) ?_;refine aw_skipL ?_
     refine blockK_normal ?_;with_reducible refine aS fun K' hK=> ?_
     simp[u11,hw];refine hK _ _ _ ?_;clear K' hK;refine aw_skipL (loopK_normal ?_ ?_)
     ·exact⟨by simp[u0],by simp[u10],i+1,by simp[hw],by omega,by rw[range_all,ht];simp[hcc,partB,hw1]⟩
     ·simp[t11,u11,hw];omega
    | false=>
     rw[hw1]at u5;by_cases b1:(c.toNat:Int)<48
     ·by_cases b2:(c.toNat:Int)=45
      ·skip;with_reducible refine aR fun K' hK=> ?_
       simp[u4,u5,b1,b2];refine hK _ _ _ ?_;clear K' hK;with_reducible refine aVk (by simp) ?_;refine aw_skipL ?_
       refine blockK_normal ?_;with_reducible refine aS fun K' hK=> ?_
       simp[u11,hw];refine hK _ _ _ ?_;clear K' hK;refine aw_skipL (loopK_normal ?_ ?_)
       ·exact⟨by simp[u0],by simp[u10],i+1,by simp[hw],by omega,by rw[range_all,ht];simp[hcc,partB,b2]⟩
       ·simp[t11,u11,hw];omega
      ·skip;with_reducible refine aR fun K' hK=> ?_
       simp[u4,u5,b1,b2];refine hK _ _ _ ?_;clear K' hK;with_reducible refine aU (by simp) ?_;refine aA ?_;refine aR fun K' hK=> ?_
       simp;refine hK _ _ _ ?_;clear K' hK;with_reducible refine aw_ret ?_
       simp[blockK,loopK,Post,resA,res1,expT,expA,exp1,expM,expL,okT,okA,ok1,rowOf,Tryz.f207];have:partB c=false:=(by simp[partB,hw1,b2];omega);simp only[partF,range_false (p:=fun i=>partB (by8 (bsL s) i)) (i:=i) (n:=(bsL s).length) (by omega) (show partB (by8 (bsL s) i)=false by rw[hcc,this]),Bool.false_and]
     ·by_cases b3:(c.toNat:Int)≤57
      ·have b4:¬(57:Int)<c.toNat:=(by omega);with_reducible refine aR fun K' hK=> ?_
       simp[u4,u5,b1,b4];refine hK _ _ _ ?_;clear K' hK;with_reducible refine aVk (by simp) ?_;refine aw_skipL ?_
       refine blockK_normal ?_;with_reducible refine aS fun K' hK=> ?_
       simp[u11,hw];refine hK _ _ _ ?_;clear K' hK;refine aw_skipL (loopK_normal ?_ ?_)
       ·exact⟨by simp[u0],by simp[u10],i+1,by simp[hw],by omega,by rw[range_all,ht];simp[hcc,partB,hw1];omega⟩
       ·simp[t11,u11,hw];omega
      ·have b4:(57:Int)<c.toNat:=(by omega);have b2:¬(c.toNat:Int)=45:=(by omega);with_reducible refine aR fun K' hK=> ?_
       simp[u4,u5,b1,b4,b2];refine hK _ _ _ ?_;clear K' hK;with_reducible refine aU (by simp) ?_;refine aA ?_;refine aR fun K' hK=> ?_
       simp;refine hK _ _ _ ?_;clear K' hK;with_reducible refine aw_ret ?_
       simp[blockK,loopK,Post,resA,res1,expT,expA,exp1,expM,expL,okT,okA,ok1,rowOf,Tryz.f207];have:partB c=false:=(by simp[partB,hw1,b2];omega);simp only[partF,range_false (p:=fun i=>partB (by8 (bsL s) i)) (i:=i) (n:=(bsL s).length) (by omega) (show partB (by8 (bsL s) i)=false by rw[hcc,this]),Bool.false_and]
  ·skip;with_reducible refine aw_exit ?_
   refine loopK_exit (blockK_exit ?_);with_reducible refine aR fun K' hK=> ?_
   simp[t0];refine acall_flat (number87_ok s hs) rfl (by simp) ?_;simp;refine hK _ _ _ ?_;clear K' hK;have:i=(bsL s).length:=(by omega);rw[this]at ht;by_cases he:s=⟨#[]⟩
   ·have he':=(empty_iff s).1 he;with_reducible refine aR fun K' hK=> ?_
    simp[t0,he];refine hK _ _ _ ?_;clear K' hK;with_reducible refine aw_retL ?_
    simp[blockK,loopK,Post,resA,res1,expT,expA,exp1,expM,expL,okT,okA,ok1,rowOf,Tryz.f207];simp[partF,he',←he]
   ·have he':¬bsL s=[]:=fun h=>he ((empty_iff s).2 h);by_cases h10:(s.size:Int)≤10
    ·have h10':(bsL s).length≤10:=(by omega);with_reducible refine aR fun K' hK=> ?_
     simp[t0,he,h10];refine hK _ _ _ ?_;clear K' hK;with_reducible refine aw_retL ?_
     simp[blockK,loopK,Post,resA,res1,expT,expA,exp1,expM,expL,okT,okA,ok1,rowOf,Tryz.f207];simp[partF,he',h10',ht]
    ·have h10':¬(bsL s).length≤10:=(by omega);with_reducible refine aR fun K' hK=> ?_
     simp[t0,he,h10];refine hK _ _ _ ?_;clear K' hK;with_reducible refine aw_retL ?_
     simp[blockK,loopK,Post,resA,res1,expT,expA,exp1,expM,expL,okT,okA,ok1,rowOf,Tryz.f207];simp[partF,he',h10']
set_option maxRecDepth 100000
set_option maxHeartbeats 4000000
def dotOk:Nat→List UInt8→Bool
 | 0,_=>false
 | k+1,l=>if Lib.indexByte l 46<0 then partF l else partF (l.take (Lib.indexByte l 46).toNat)&&dotOk k (l.drop ((Lib.indexByte l 46).toNat+1))
def preOk (l:List UInt8):Bool:=decide (l=[]) || dotOk 5 l
theorem right65_ok (v:Ver) (hs:v.pre.size≤4000000000):CallsOK Tryz.prog 174 [.agg v.cells] (bV (preOk (bsL v.pre)&&(inR v.maj&&(inR v.min&&inR v.pat)))) []:=by
 refine callsOK mixed Tryz.call174 Tryz.func174 rfl (by rw[Tryz.ntmps174];simp) ?_ rfl;rw[Tryz.ntmps174];with_reducible refine aR fun K' hK=> ?_
 simp;refine hK _ _ _ ?_;clear K' hK;with_reducible refine aA ?_;refine aR fun K' hK=> ?_
 simp;refine hK _ _ _ ?_;clear K' hK;refine aw_cutR (fun t G nx=>t 1=.ptr 0 0∧t 2=.ptr 1 0∧G 0=some (.var 23 v.cells)∧G 1=some (.var 4 [bV false])∧preOk (bsL v.pre)=true∧2≤nx) ?_ ?_
 ·by_cases he:v.pre=⟨#[]⟩
  ·skip;with_reducible refine aVk (by simp[he]) ?_;refine aw_endR ?_
   simp[preOk,he];exact .inl rfl
  ·skip;with_reducible refine aU (by simp[he]) ?_;refine aA ?_;refine aR fun K' hK=> ?_
   simp;refine hK _ _ _ ?_;clear K' hK;with_reducible refine aA ?_;refine aR fun K' hK=> ?_
   simp;refine acall_inlK (inlK mixed Tryz.call206 Tryz.func206 rfl (by rw[Tryz.ntmps206];simp) fun hf=> ?_);rw[Tryz.ntmps206];with_reducible refine aR fun K' hK=> ?_
   simp;refine hK _ _ _ ?_;clear K' hK;with_reducible refine aR fun K' hK=> ?_
   simp;refine acall_inlK (inlK mixed Tryz.call237 Tryz.func237 rfl (by rw[Tryz.ntmps237];simp) fun hf=> ?_);rw[Tryz.ntmps237];with_reducible refine aR fun K' hK=> ?_
   simp;refine hK _ _ _ ?_;clear K' hK;with_reducible refine aR fun K' hK=> ?_
   simp;refine hK _ _ _ ?_;clear K' hK;with_reducible refine aw_retL ?_
   simp[blockK,loopK,Post,resA,res1,expT,expA,exp1,expM,expL,okT,okA,ok1,rowOf,Tryz.f237];refine hK _ _ _ ?_;clear K' hK;with_reducible refine aw_retL ?_
   simp[blockK,loopK,Post,resA,res1,expT,expA,exp1,expM,expL,okT,okA,ok1,rowOf,Tryz.f206];refine hK _ _ _ ?_;clear K' hK;refine aw_gen (fun t G nx=>t 1=.ptr 0 0∧t 2=.ptr 1 0∧t 3=.ptr 2 0∧t 10=.fn 255 [.ptr 4 0,.ptr 3 0,.ptr 5 0]∧nx=6∧G 0=some (.var 23 v.cells)∧G 1=some (.var 4 [bV false])∧G 2=some (.var 3 [iV 0])∧G 3=some (.var 9 [sV v.pre])∧G 4=some (.var 9 [sV ⟨#[46]⟩])∧G 5=some (.var 3 [iV 0])) ?_ ?_
   ·simp;done
   rintro t G nx ⟨t1,t2,t3,t10,rfl,g0,g1,g2,g3,g4,g5⟩;with_reducible refine aw_block ?_
   refine aw_range (f:=255) (fn:=Tryz.f255) mixed t10 Tryz.call255 Tryz.func255 rfl (by rw[Tryz.ntmps255];simp) rfl ?_;rw[Tryz.ntmps255];generalize hL:(Lp.mk t 29 _ _ _)=L;have hLs:L.s=t:=(by subst hL;rfl);have hne:¬bsL v.pre=[]:=fun h=>he ((empty_iff _).2 h);have hround:∀(b:Bs) (c:Nat) (K:AV→Hp→Nat→Prop) (G:Hp) (nx:Nat),b.size≤4000000000→c≤5→G 0=some (.var 23 v.cells)→G 1=some (.var 4 [bV false])→G 2=some (.var 3 [iV c])→G 6=some (L.o .ready none)→
     (partF (bsL b)=true→c+1≤5→K (bV true) (((G.upd 6 (L.o .busy none)).upd 2 (.var 3 [iV (c+1:Nat)])).upd 6 (L.o .ready none)) nx)→
     (partF (bsL b)=false∨¬c+1≤5→K (bV false) ((((G.upd 6 (L.o .busy none)).upd 2 (.var 3 [iV (c+1:Nat)])).upd 1 (.var 4 [bV false])).upd 6 (L.o .done (some .ret))) nx)→YldK Tryz.prog 6 [sV b] K G nx:=by
    subst hL;clear g0 g1 g2 g3 g4 g5;intro b c K G nx hb hc g0 g1 g2 g6 k1 k2;refine yldK mixed g6 rfl (by simp) rfl rfl fun hf=> ?_;have hw:IntKind.i64.wrap (↑c+1)=((c+1:Nat):Int):=wrapS (by omega);with_reducible refine aS fun K' hK=> ?_
    simp;refine hK _ _ _ ?_;clear K' hK;refine⟨rfl,g6,?_⟩;dsimp only;generalize (Lp.mk t 29 _ _ _)=L at g6 k1 k2⊢;with_reducible refine aw_toS (aw_block ?_);refine aR fun K' hK=> ?_
    simp[t3,g2,hw];refine hK _ _ _ ?_;clear K' hK;with_reducible refine aR fun K' hK=> ?_
    simp;refine acall_flat (part76_ok b hb) rfl (by simp) ?_;by_cases hgo:partF (bsL b)=true∧c+1≤5
    ·have h5:¬(5:Int)<(c+1:Nat):=(by omega);simp[hgo.1,t3,h5];refine hK _ _ _ ?_;clear K' hK
     (first | with_reducible refine aC fun A B hA hB=> ?_ | with_reducible refine aD fun A B hA hB=> ?_)
     simp;refine⟨fun hc=>hA ?_,fun hc=>hB ?_⟩<;>clear hA hB A B<;>(try (simp at hc;done))<;>(try (exfalso;simp at hc;omega))<;>clear hc<;>(try with_reducible refine aK ?_);with_reducible refine aw_skipL ?_
     refine blockK_normal ?_;refine aw_skipL ?_;refine roundK_normal (by simp) ?_;exact k1 hgo.1 hgo.2
    ·cases hp:partF (bsL b)with
     | false=>
      simp[hp,t3];refine hK _ _ _ ?_;clear K' hK;with_reducible refine aU (by simp) ?_;refine aA ?_;refine aR fun K' hK=> ?_
      simp[t2,g1];refine hK _ _ _ ?_;clear K' hK;refine aw_ret ?_;refine blockK_ret ?_;refine roundK_ret (by simp) ?_;exact k2 (.inl hp)
     | true=>
      have h5:(5:Int)<(c+1:Nat):=(by simp[hp]at hgo;omega);simp[hp,t3,h5];refine hK _ _ _ ?_;clear K' hK
      (first | with_reducible refine aC fun A B hA hB=> ?_ | with_reducible refine aD fun A B hA hB=> ?_)
      simp;refine⟨fun hc=>hA ?_,fun hc=>hB ?_⟩<;>clear hA hB A B<;>(try (simp at hc;done))<;>(try (exfalso;simp at hc;omega))<;>clear hc<;>(try with_reducible refine aK ?_);with_reducible refine aA ?_;refine aR fun K' hK=> ?_
      simp[t2,g1];refine hK _ _ _ ?_;clear K' hK;refine aw_ret ?_;refine blockK_ret ?_;refine roundK_ret (by simp) ?_;exact k2 (.inr (by omega))
   have hz1:ByteArray.size (⟨#[46]⟩:Bs)=1:=rfl;with_reducible refine aA ?_;refine aR fun K' hK=> ?_
   simp[g4,hz1];refine hK _ _ _ ?_;clear K' hK;with_reducible refine aYk (by simp) ?_;refine aw_block ?_
   refine aw_loop (fun t' G' nx'=>7≤nx'∧t' 0=.yl 6∧t' 1=.ptr 4 0∧t' 2=.ptr 3 0∧t' 3=.ptr 5 0∧G' 0=some (.var 23 v.cells)∧G' 1=some (.var 4 [bV false])∧G' 4=some (.var 9 [sV ⟨#[46]⟩])∧G' 5=some (.var 3 [iV 0])∧G' 6=some (L.o .ready none)∧∃(k:Nat) (r:Bs),k≤5∧G' 2=some (.var 3 [iV (5-k:Nat)])∧G' 3=some (.var 9 [sV r])∧r.size≤4000000000∧dotOk 5 (bsL v.pre)=dotOk k (bsL r)) (fun _ G' _=>match G' 2 with | some (.var _ [.v (.int _ n)])=>5-n.toNat | _=>0) ?_ ?_
   ·refine⟨by omega,rfl,rfl,rfl,rfl,g0,g1,g4,g5,by simp,5,v.pre,by omega,g2,g3,hs,rfl⟩
   ·rintro t' G' nx'-⟨hnx,u0,u1,u2,u3,h0,h1,h4,h5,h6,k,r,hk,h2,h3,hr,hd⟩;have hl:(bsL r).length=r.size:=bsL_len r;with_reducible refine aw_toS (aw_block ?_);refine aR fun K' hK=> ?_
    simp[u1,u2,h3,h4];refine acall_flat (index95 r 46) rfl (by simp) ?_;simp;refine hK _ _ _ ?_;clear K' hK;generalize hi:Lib.indexByte (bsL r) 46=i;with_reducible refine aA ?_;refine aR fun K' hK=> ?_
    simp;refine hK _ _ _ ?_;clear K' hK;with_reducible refine aC fun A B hA hB=> ?_
    simp;refine⟨fun hneg=>hA ?_,fun hneg=>hB ?_⟩<;>clear hA hB A B<;>(try simp at hneg)<;>(try with_reducible refine aK ?_)
    ·refine aw_exit (blockK_pass (by decide) (loopK_exit (blockK_exit ?_)));with_reducible refine aS fun K' hK=> ?_
     simp[u0,u2,h3];refine⟨⟨_,_,_,_,_,_,_,h6⟩,hround r (5-k) _ _ _ hr (by omega) h0 h1 h2 h6 (fun hp hc=> ?_) (fun hn=> ?_)⟩
     ·simp;refine hK _ _ _ ?_;clear K' hK;refine aw_skipL (rangeK_on (.inl rfl) (by simp) ?_);rw[hLs];refine blockK_normal (aw_endR ⟨t1,t2,by simp[h0],by simp[h1],?_,by omega⟩);have:preOk (bsL v.pre)=dotOk 5 (bsL v.pre):=(by simp[preOk,hne]);rw[this,hd];cases k with
      | zero=>omega
      | succ k=>simp[dotOk,hi,hneg,hp]
     ·simp;refine hK _ _ _ ?_;clear K' hK;refine aw_skipL (rangeK_ret (.inl rfl) (by simp) ?_);rw[hLs];have:preOk (bsL v.pre)=false:=by
       have:preOk (bsL v.pre)=dotOk 5 (bsL v.pre):=(by simp[preOk,hne]);rw[this,hd];cases k with
       | zero=>rfl
       | succ k=>
        have:partF (bsL r)=false:=hn.resolve_right (by omega);simp[dotOk,hi,hneg,this]
      refine blockK_ret ?_;simp[cutK,Post,resA,res1,expT,expA,exp1,expM,expL,okT,okA,ok1,rowOf,Tryz.f174,this,t2]
    ·obtain⟨n,rfl⟩:∃n:Nat,i=n:=⟨i.toNat,by omega⟩;have hn:n<r.size:=by
      have:=(Lib.indexByte_some hi).1;have:=(List.getElem?_eq_some_iff.1 this).1;omega
     have hw0:IntKind.i64.wrap (n:Int)=n:=wrap64 (by omega) (by omega);with_reducible refine aR fun K' hK=> ?_
     simp[u2,u3,h3,h5,bnd_some,hw0,Nat.le_of_lt hn];refine hK _ _ _ ?_;clear K' hK;with_reducible refine aA ?_;refine aR fun K' hK=> ?_
     simp[u0];have hsz:(r.extract 0 n).size≤4000000000:=(by simp;omega);have hle:bsL (r.extract 0 n)=(bsL r).take n:=(by simp[bsL]);have hle2:bsL (r.extract (n+1) r.size)=(bsL r).drop (n+1):=by
      have:r.data.toList.length=r.size:=hl;simp[bsL];rw[List.take_of_length_le (by simp[this])]
     have hdk:∀j,dotOk (j+1) (bsL r)=(partF ((bsL r).take n)&&dotOk j ((bsL r).drop (n+1))):=fun j=>by
      rw[dotOk,hi,if_neg (by omega:¬(n:Int)<0)];simp
     refine⟨⟨_,_,_,_,_,_,_,h6⟩,hround (r.extract 0 n) (5-k) _ _ _ hsz (by omega) h0 h1 h2 h6 (fun hp hc=> ?_) (fun hn=> ?_)⟩
     ·simp;refine hK _ _ _ ?_;clear K' hK;with_reducible refine aYk (by simp) ?_
      have hw1:IntKind.i64.wrap ((n:Int)+1)=((n+1:Nat):Int):=wrapS (by omega);have hp1:(0:Int)≤(n:Int)+1:=(by omega);have hp2:n+1≤r.size:=(by omega);with_reducible refine aS fun K' hK=> ?_
      simp[u1,u2,h3,h4,hz1,hw1,bnd_some,hp1,hp2];refine hK _ _ _ ?_;clear K' hK;with_reducible refine aw_skipL ?_
      refine blockK_normal ?_;refine aw_skipL (loopK_normal ?_ ?_)
      ·cases k with
       | zero=>omega
       | succ k=>
        refine⟨hnx,by simp[u0],by simp[u1],by simp[u2],by simp[u3],by simp[h0],by simp[h1],by simp[h4],by simp[h5],by simp,k,r.extract (n+1) r.size,by omega,?_,by simp,by simp;omega,?_⟩
        ·have:(5-k:Nat)=(5-(k+1))+1:=(by omega);simp[this]
        ·rw[hle]at hp;rw[hd,hdk,hp,hle2];rfl
      ·simp[h2];omega
     ·simp;refine hK _ _ _ ?_;clear K' hK;with_reducible refine aX (by simp) ?_
      refine aw_ret (blockK_ret (loopK_ret (blockK_ret ?_)));refine rangeK_ret (.inr rfl) (by simp) ?_;rw[hLs];have:preOk (bsL v.pre)=false:=by
       have:preOk (bsL v.pre)=dotOk 5 (bsL v.pre):=(by simp[preOk,hne]);rw[this,hd];cases k with
       | zero=>rfl
       | succ k=>
        have:=hn.resolve_right (by omega);rw[hle]at this;rw[hdk,this];rfl
      refine blockK_ret ?_;simp[cutK,Post,resA,res1,expT,expA,exp1,expM,expL,okT,okA,ok1,rowOf,Tryz.f174,this,t2]
 ·rintro t G nx ⟨t1,t2,g0,g1,hp,hnx⟩;have hn1:¬1=nx:=(by omega);with_reducible refine aR fun K' hK=> ?_
  simp[t1,t2,g0];refine acall_flat (within77_ok [v.maj,v.min,v.pat] (by simp)) rfl (by simp[treeOf_row];rfl) ?_;simp[t2,g1,hn1];refine hK _ _ _ ?_;clear K' hK;with_reducible refine aw_retL ?_
  simp[blockK,loopK,Post,resA,res1,expT,expA,exp1,expM,expL,okT,okA,ok1,rowOf,Tryz.f174,t2];simp[hp]
set_option maxRecDepth 100000
set_option maxHeartbeats 4000000
def Fits (a b:Bs):Prop:=a.size+b.size≤9223372036854775807
instance (a b:Bs):Decidable (Fits a b):=inferInstanceAs (Decidable (a.size+b.size≤9223372036854775807))
@[simp] theorem str_add (P:Program) (t:TypeId) (a b:Bs):evBin P .add t (.string a) (.string b)=if Fits a b then some (.string (a++b))else none:=rfl
theorem app_size (a b:Bs):(a++b).size=a.size+b.size:=ByteArray.size_append
def verOk (v:Ver):Bool:=preOk (bsL v.pre)&&(inR v.maj&&(inR v.min&&inR v.pat))
def prCore (v:Ver):Bs:=ofL (Lib.itoa v.maj)++⟨#[46]⟩++ofL (Lib.itoa v.min)++⟨#[46]⟩++ofL (Lib.itoa v.pat)
def prV (v:Ver):Bs:=if verOk v then(if v.pre=⟨#[]⟩then prCore v else prCore v++(⟨#[45]⟩++v.pre))else⟨#[]⟩
theorem inR_int {n:Int} (h:inR n=true):0≤n∧n≤999999:=by
 simpa [inR]using h
theorem verOk_int {v:Ver} (h:verOk v=true):(0≤v.maj∧v.maj≤999999)∧(0≤v.min∧v.min≤999999)∧(0≤v.pat∧v.pat≤999999):=by
 simp[verOk]at h;exact⟨inR_int h.2.1,inR_int h.2.2.1,inR_int h.2.2.2⟩
theorem print51_ok (v:Ver) (hs:v.pre.size≤4000000000):CallsOK Tryz.prog 137 [.agg v.cells] (.tup [sV (prV v),bV (verOk v)]) []:=by
 refine callsOK mixed Tryz.call137 Tryz.func137 rfl (by rw[Tryz.ntmps137];simp) ?_ rfl;rw[Tryz.ntmps137];with_reducible refine aR fun K' hK=> ?_
 simp;refine hK _ _ _ ?_;clear K' hK;with_reducible refine aA ?_;refine aR fun K' hK=> ?_
 simp;refine acall_flat (right65_ok v hs) rfl (by simp) ?_;show _;cases hv:verOk v with
 | false=>
  have hv':=hv;rw[verOk]at hv';simp[hv'];refine hK _ _ _ ?_;clear K' hK;with_reducible refine aX (by simp) ?_;refine aA ?_;refine aR fun K' hK=> ?_
  simp;refine hK _ _ _ ?_;clear K' hK;with_reducible refine aw_ret ?_
  simp[blockK,loopK,Post,resA,res1,expT,expA,exp1,expM,expL,okT,okA,ok1,rowOf,Tryz.f137];simp[prV,hv];done
 | true=>
  have hv':=hv;rw[verOk]at hv';obtain⟨i1,i2,i3⟩:=verOk_int hv;have hpc:prV v=if v.pre=⟨#[]⟩then prCore v else prCore v++(⟨#[45]⟩++v.pre):=(by rw[prV,hv];rfl);have q1:=itoa66 v.maj (by omega) (by omega);have q2:=itoa66 v.min (by omega) (by omega);have q3:=itoa66 v.pat (by omega) (by omega);have s1:(ofL (Lib.itoa v.maj)).size≤21:=(by rw[ofL_size];exact Lib.itoa_length_le _ (by omega) (by omega));have s2:(ofL (Lib.itoa v.min)).size≤21:=(by rw[ofL_size];exact Lib.itoa_length_le _ (by omega) (by omega));have s3:(ofL (Lib.itoa v.pat)).size≤21:=(by rw[ofL_size];exact Lib.itoa_length_le _ (by omega) (by omega));have hc:prCore v=ofL (Lib.itoa v.maj)++⟨#[46]⟩++ofL (Lib.itoa v.min)++⟨#[46]⟩++ofL (Lib.itoa v.pat):=rfl;rw[hc]at hpc;clear hc;generalize ofL (Lib.itoa v.maj)=a at q1 s1 hpc;generalize ofL (Lib.itoa v.min)=b at q2 s2 hpc;generalize ofL (Lib.itoa v.pat)=c at q3 s3 hpc;have d1:ByteArray.size (⟨#[46]⟩:Bs)=1:=rfl;have d2:ByteArray.size (⟨#[45]⟩:Bs)=1:=rfl;have f1:Fits a ⟨#[46]⟩:=(by unfold Fits;omega);have f2:Fits (a++⟨#[46]⟩) b:=(by unfold Fits;simp only[app_size];omega);have f3:Fits (a++⟨#[46]⟩++b) ⟨#[46]⟩:=(by unfold Fits;simp only[app_size];omega);have f4:Fits (a++⟨#[46]⟩++b++⟨#[46]⟩) c:=(by unfold Fits;simp only[app_size];omega);have f5:Fits ⟨#[45]⟩ v.pre:=(by unfold Fits;omega);have f6:Fits (a++⟨#[46]⟩++b++⟨#[46]⟩++c) (⟨#[45]⟩++v.pre):=(by unfold Fits;simp only[app_size];omega);simp only[hv'];simp;refine hK _ _ _ ?_;clear K' hK;with_reducible refine aYk (by simp) ?_;refine aQ fun K' hK=> ?_
  simp;refine acall_flat q1 rfl (by simp) ?_;simp[f1];refine acall_flat q2 rfl (by simp) ?_;simp[f2,f3];refine acall_flat q3 rfl (by simp) ?_;simp[f4];refine hK _ _ _ ?_;clear K' hK;by_cases he:v.pre=⟨#[]⟩
  ·with_reducible refine aA ?_;refine aR fun K' hK=> ?_
   simp[he];refine hK _ _ _ ?_;clear K' hK;with_reducible refine aYk (by simp) ?_;refine aR fun K' hK=> ?_
   simp;refine hK _ _ _ ?_;clear K' hK;with_reducible refine aw_retL ?_
   simp[blockK,loopK,Post,resA,res1,expT,expA,exp1,expM,expL,okT,okA,ok1,rowOf,Tryz.f137];rw[hpc,if_pos he];exact⟨rfl,hv⟩
  ·with_reducible refine aA ?_;refine aR fun K' hK=> ?_
   simp[he];refine hK _ _ _ ?_;clear K' hK;with_reducible refine aX (by simp) ?_;refine aR fun K' hK=> ?_
   simp[f5,f6];refine hK _ _ _ ?_;clear K' hK;with_reducible refine aR fun K' hK=> ?_
   simp;refine hK _ _ _ ?_;clear K' hK;with_reducible refine aw_retL ?_
   simp[blockK,loopK,Post,resA,res1,expT,expA,exp1,expM,expL,okT,okA,ok1,rowOf,Tryz.f137];rw[hpc,if_neg he];exact⟨rfl,hv⟩
def rightF (name:Bs) (v:Ver):Bool:=verOk v&&goodF (bsL name)
theorem right32_ok (name:Bs) (v:Ver) (h1:name.size≤4000000000) (hs:v.pre.size≤4000000000):CallsOK Tryz.prog 97 [sV name,.agg v.cells] (bV (rightF name v)) []:=by
 refine callsOK mixed Tryz.call97 Tryz.func97 rfl (by rw[Tryz.ntmps97];simp) ?_ rfl;rw[Tryz.ntmps97];with_reducible refine aR fun K' hK=> ?_
 simp;refine hK _ _ _ ?_;clear K' hK;with_reducible refine aR fun K' hK=> ?_
 simp;refine acall_flat (print51_ok v hs) rfl (by simp) ?_;simp;refine hK _ _ _ ?_;clear K' hK;cases hv:verOk v with
 | false=>
  with_reducible refine aR fun K' hK=> ?_
  simp[hv];refine hK _ _ _ ?_;clear K' hK;with_reducible refine aw_retL ?_
  simp[blockK,loopK,Post,resA,res1,expT,expA,exp1,expM,expL,okT,okA,ok1,rowOf,Tryz.f97];simp[rightF,hv]
 | true=>
  with_reducible refine aR fun K' hK=> ?_
  simp[hv];refine acall_flat (good52_ok name h1) rfl (by simp) ?_;simp;refine hK _ _ _ ?_;clear K' hK;with_reducible refine aw_retL ?_
  simp[blockK,loopK,Post,resA,res1,expT,expA,exp1,expM,expL,okT,okA,ok1,rowOf,Tryz.f97];simp[rightF,hv]
set_option maxRecDepth 100000
set_option maxHeartbeats 4000000
structure Key where
 par:Int
 name:Bs
 deriving DecidableEq,Inhabited
def kV (k:Key):Value:=.agg #[.int .i64 k.par,.string k.name]
def kC (k:Key):List AV:=[iV k.par,sV k.name]
@[simp] theorem kC_conc (k:Key):conc (.agg (kC k))=some (kV k):=rfl
@[simp] theorem kC_one (k:Key):(kC k).all AV.one=true:=rfl
@[simp] theorem kC_all (k:Key):getC (kC k) 0 2=some (kC k):=rfl
@[simp] theorem kC_len (k:Key):(kC k).length=2:=rfl
@[simp] theorem kC_trees {P:Program} {G:Hp} (k:Key):treesOf P G (kC k)=some (kC k,G):=rfl
def entK (S:List Key):List (Value×AV):=S.map fun k=>(kV k,bV true)
noncomputable def fs62:Array Field:=match Tryz.prog.underlying 113 with
 | some (.struct fs)=>fs
 | _=> #[]
@[simp] theorem mapI60:mapI Tryz.prog 111=some (113,.struct fs62,4):=by kernel_rfl
@[simp] theorem zv4:zvI Tryz.prog 4=some (bV false):=by kernel_rfl
@[simp] theorem keyOK62 (k:Key):keyOK Tryz.prog (.struct fs62) (kV k)=true:=by kernel_rfl
theorem eqV62 (a b:Key):eqV Tryz.prog 20 113 (kV a) (kV b)=some ((a.par==b.par)&&((a.name.toList==b.name.toList)&&true)):=by kernel_rfl
theorem sameK62 (a b:Key):sameK Tryz.prog 113 (.struct fs62) (kV a) (kV b)=some (decide (a=b)):=by
 show eqV Tryz.prog 20 113 (kV a) (kV b)=_;rw[eqV62,beq_toList];congr 1;rw[Bool.eq_iff_iff];cases a;cases b;simp
theorem findK (k:Key):∀(S:List Key) (i:Nat),∃r,findI Tryz.prog 113 (.struct fs62) (kV k) (entK S) i=some r∧(k∈S→∃j,r=some (i+j)∧j<S.length)∧(k∉S→r=none)
 | [],i=>⟨none,rfl,by simp,by simp⟩
 | a::S,i=>by
  simp only[entK,List.map_cons,findI,sameK62];by_cases h:k=a
  ·subst h;exact⟨some i,by simp,fun _=>⟨0,rfl,by simp⟩,fun h=>absurd (List.mem_cons_self ..) h⟩
  ·obtain⟨r,h1,h2,h3⟩:=findK k S (i+1);refine⟨r,by simpa [h,entK]using h1,fun hm=> ?_,fun hm=>h3 (fun h=>hm (List.mem_cons_of_mem _ h))⟩;obtain⟨j,hj,hl⟩:=h2 (by simpa [h]using hm);exact⟨j+1,by rw[hj];congr 1;omega,by simp;omega⟩
theorem lookupK {G:Hp} {id:Nat} {S:List Key} (hG:G id=some (.map (entK S))) (k:Key):evLookup Tryz.prog G 111 (.mp id) (.agg (kC k)) false=some (bV (decide (k∈S))):=by
 obtain⟨r,h1,h2,h3⟩:=findK k S 0;simp only[evLookup,mapI60,kC_conc,hG,zv4,keyOK62,if_true,h1];by_cases hm:k∈S
 ·obtain⟨j,rfl,hl⟩:=h2 hm;have:(entK S)[j]? =some (kV S[j],bV true):=(by simp[entK,hl]);simp[this,hm]
 ·rw[h3 hm];simp[hm]
theorem updateK {G:Hp} {id:Nat} {S:List Key} (hG:G id=some (.map (entK S))) {k:Key} (hm:k∉S):evMapUpdate Tryz.prog G 111 (.mp id) (.agg (kC k)) (bV true)=some (G.upd id (.map (entK (S++[k])))):=by
 obtain⟨r,h1,h2,h3⟩:=findK k S 0;simp only[evMapUpdate,mapI60,kC_conc,hG,keyOK62,if_true,h1,h3 hm];simp[entK]
@[simp] theorem elI48:elI Tryz.prog 49=some (3,1,8,[.int .i64 0]):=by kernel_rfl
theorem flat_iC (l:List Int):flat iC l=l.map fun n=>iV n:=by
 induction l with
 | nil=>rfl
 | cons a l ih=>rw[List.map_cons,←ih];rfl
theorem made_iC (n:Nat):madeA [.int .i64 0] (n*1)=flat iC (List.replicate n 0):=by
 rw[flat_iC];simp[madeA,madeCells,Nat.mod_one,Function.comp_def,List.map_const,List.map_const'];done
def rootP:Pl:=⟨-1,⟨#[]⟩,⟨0,0,0,⟨#[]⟩⟩⟩
theorem rootC:conc (.agg [iV (-1),sV ⟨#[]⟩,iV 0,iV 0,iV 0,sV ⟨#[]⟩])=some rootP.val:=rfl
def keyP (p:Pl):Key:=⟨p.par,p.name⟩
def dD (t:List Pl):Nat→List Int
 | 0=>List.replicate t.length 0
 | i+1=>(dD t i).set (i+1) (nth (dD t i) (nth t.tail i).par.toNat+1)
theorem dD_len (t:List Pl):∀i,(dD t i).length=t.length
 | 0=>by simp[dD]
 | i+1=>by simp[dD,dD_len t i]
def keysTo (t:List Pl) (i:Nat):List Key:=(t.tail.take i).map keyP
theorem keys_zero (t:List Pl):keysTo t 0=[]:=rfl
theorem keys_succ {t:List Pl} {i:Nat} (h:i<t.tail.length):keysTo t (i+1)=keysTo t i++[keyP (nth t.tail i)]:=by
 unfold keysTo;rw[List.take_add_one,List.getElem?_eq_getElem h,List.map_append,←nth_eq h];rfl
def okAt (t:List Pl) (i:Nat):Bool:=
 let p:=nth t.tail i
 decide (0≤p.par)&&(decide (p.par≤i)&&(rightF p.name p.ver&&(decide (keyP p∉keysTo t i)&&decide (nth (dD t i) p.par.toNat+1≤12))))
def treeOk (t:List Pl):Bool:=(List.range t.tail.length).all (okAt t)
def checkN (t:List Pl):Int:=if 200<t.length then 2 else if t=[]∨nth t 0≠rootP then 150 else if treeOk t then 0 else 150
def OKs (t:List Pl):Prop:=t.length≤1000000000∧∀p∈t,p.name.size≤4000000000∧p.ver.pre.size≤4000000000
theorem check18_ok (t:List Pl) (ht:OKs t):CallsOK Tryz.prog 42 [rowT Pl.cells t] (iV (checkN t)) []:=by
 refine callsOK mixed Tryz.call42 Tryz.func42 rfl (by rw[Tryz.ntmps42];simp) ?_ rfl;rw[Tryz.ntmps42];have hl:=ht.1;with_reducible refine aR fun K' hK=> ?_
 simp;refine hK _ _ _ ?_;clear K' hK;with_reducible refine aw_block ?_;refine aR fun K' hK=> ?_
 simp;refine hK _ _ _ ?_;clear K' hK;by_cases h2:(200:Int)<t.length
 ·skip;with_reducible refine aU (by simp[h2]) ?_;refine aA ?_;refine aR fun K' hK=> ?_
  simp;refine hK _ _ _ ?_;clear K' hK;with_reducible refine aw_ret ?_
  simp[blockK,loopK,Post,resA,res1,expT,expA,exp1,expM,expL,okT,okA,ok1,rowOf,Tryz.f42];rw[checkN,if_pos (by omega)]
 ·skip;with_reducible refine aV (by simp[h2]) ?_
  have h2':¬200<t.length:=(by omega);by_cases he:t=[]
  ·with_reducible refine aA ?_;refine aR fun K' hK=> ?_
   simp[he];refine hK _ _ _ ?_;clear K' hK;with_reducible refine aX (by simp) ?_;refine aA ?_;refine aR fun K' hK=> ?_
   simp;refine hK _ _ _ ?_;clear K' hK;with_reducible refine aw_ret ?_
   simp[blockK,loopK,Post,resA,res1,expT,expA,exp1,expM,expL,okT,okA,ok1,rowOf,Tryz.f42];rw[checkN,if_neg h2',if_pos (.inl he)]
  ·have hpos:0<t.length:=List.length_pos_iff.2 he;have hpos':(0:Int)<t.length:=(by omega);have hpos1:1≤t.length:=hpos;have hz:¬(t.length:Int)=0:=(by omega);by_cases hr:nth t 0=rootP
   ·with_reducible refine aA ?_;refine aR fun K' hK=> ?_
    simp[hz,hpos,hpos',hr,he,rootC];refine hK _ _ _ ?_;clear K' hK;with_reducible refine aYk (by simp) ?_;refine aw_skipL ?_
    refine blockK_normal ?_;with_reducible refine aR fun K' hK=> ?_
    simp;refine hK _ _ _ ?_;clear K' hK;have hmk:evMake Tryz.prog (Hp.upd (fun _=>none) 0 (.map [])) 1 49 (iV t.length) (iV t.length)=some (.row 1 t.length,(Hp.upd (fun _=>none) 0 (.map [])).upd 1 (.row 3 (flat iC (List.replicate t.length 0))),2):=by
     simp only[evMake,elI48];rw[if_pos ⟨trivial,by omega,by omega,by omega⟩,Int.toNat_natCast,made_iC]
    with_reducible refine aR fun K' hK=> ?_
    simp[hmk];refine hK _ _ _ ?_;clear K' hK;with_reducible refine aA ?_;refine aR fun K' hK=> ?_
    simp[hpos,hpos',hpos1,bnd_some];refine hK _ _ _ ?_;clear K' hK;with_reducible refine aw_block ?_
    have htl:t.tail.length=t.length-1:=List.length_tail;have htk:t.tail.take (t.length-1)=t.tail:=List.take_of_length_le (by omega);refine aw_loop (fun s G nx=>s 3=.mp 0∧s 4=.row 1 t.length∧s 28=rowT Pl.cells t.tail∧s 29=iV (t.length-1:Nat)∧2≤nx∧∃i:Nat,s 30=iV i∧i≤t.length-1∧G 0=some (.map (entK (keysTo t i)))∧G 1=some (.row 3 (flat iC (dD t i)))∧(List.range i).all (okAt t)=true∧∀x∈dD t i,0≤x∧x≤12) (fun s _ _=>match s 30 with | .v (.int _ n)=>t.length-n.toNat | _=>0) ?_ ?_
    ·refine⟨by simp,by simp,by simp[htk],by simp,by omega,0,by simp,by omega,by simp[entK,keys_zero],by simp[dD],by simp,fun x hx=>by simp[dD]at hx;omega⟩
    ·rintro s G nx-⟨s3,s4,s28,s29,hnx,i,s30,hi,g0,g1,hall,hD⟩;have hw:IntKind.i64.wrap (↑i+1)=((i+1:Nat):Int):=wrapS (by omega);with_reducible refine aR fun K' hK=> ?_
     simp[s29,s30];refine hK _ _ _ ?_;clear K' hK;with_reducible refine aC fun A B hA hB=> ?_
     simp;refine⟨fun hi2=>hA ?_,fun hi2=>hB ?_⟩<;>clear hA hB A B<;>(try simp at hi2)<;>(try with_reducible refine aK ?_)
     ·skip;with_reducible refine aw_block ?_
      have hi3:i<t.length-1:=(by omega);have hi4:(i:Int)<(t.length-1:Nat):=(by omega);with_reducible refine aR fun K' hK=> ?_
      simp[s28,s30,hi3,hi4];refine hK _ _ _ ?_;clear K' hK;generalize hp:nth t.tail i=p;with_reducible refine aR fun K' hK=> ?_
      simp;refine hK _ _ _ ?_;clear K' hK;have n0:¬0=nx:=(by omega);have n1:¬1=nx:=(by omega);have n2:¬0=nx+1:=(by omega);have n3:¬1=nx+1:=(by omega);have n4:¬nx=0:=(by omega);refine aw_gen (fun u H ny=>u 3=.mp 0∧u 4=.row 1 t.length∧u 28=rowT Pl.cells t.tail∧u 29=iV (t.length-1:Nat)∧u 30=iV i∧u 5=iV i∧u 6=.ptr nx 0∧u 7=.ptr (nx+1) 0∧2≤ny∧H 0=some (.map (entK (keysTo t i)))∧H 1=some (.row 3 (flat iC (dD t i)))∧H nx=some (.var 58 p.cells)∧H (nx+1)=some (.var 113 (kC (keyP p)))) ?_ ?_
      ·refine⟨by simp[s3],by simp[s4],by simp[s28],by simp[s29],by simp[s30],by simp,by simp,by simp,by omega,by simp[n0,n2,g0],by simp[n1,n3,n4,g1],by simp,?_⟩;simp[keyP,kC]
      rintro u H ny ⟨u3,u4,u28,u29,u30,u5,u6,u7,hny,h0,h1,h6,h7⟩;have hpm:p∈t:=List.mem_of_mem_tail (hp▸nth_mem (by omega));obtain⟨b1,b2⟩:=ht.2 p hpm;have hbad:okAt t i=false→checkN t=150:=fun h=>by
       rw[checkN,if_neg h2',if_neg (by simp[he,hr]),treeOk,range_false (by omega) h];rfl
      by_cases a1:p.par<0
      ·with_reducible refine aA ?_;refine aR fun K' hK=> ?_
       simp[u6,h6,a1];refine hK _ _ _ ?_;clear K' hK;with_reducible refine aX (by simp) ?_;refine aA ?_;refine aR fun K' hK=> ?_
       simp;refine hK _ _ _ ?_;clear K' hK;with_reducible refine aw_ret ?_
       simp[blockK,loopK,Post,resA,res1,expT,expA,exp1,expM,expL,okT,okA,ok1,rowOf,Tryz.f42];exact(hbad (by simp[okAt,hp];omega)).symm
      ·by_cases a2:(i:Int)<p.par
       ·with_reducible refine aA ?_;refine aR fun K' hK=> ?_
        simp[u5,u6,h6,a1,a2];refine hK _ _ _ ?_;clear K' hK;with_reducible refine aX (by simp) ?_;refine aA ?_;refine aR fun K' hK=> ?_
        simp;refine hK _ _ _ ?_;clear K' hK;with_reducible refine aw_ret ?_
        simp[blockK,loopK,Post,resA,res1,expT,expA,exp1,expM,expL,okT,okA,ok1,rowOf,Tryz.f42];exact(hbad (by simp[okAt,hp];omega)).symm
       ·cases hrt:rightF p.name p.ver with
        | false=>
         with_reducible refine aA ?_;refine aR fun K' hK=> ?_
         simp[u5,u6,h6,a1,a2];refine acall_flat (right32_ok p.name p.ver b1 b2) rfl (by simp) ?_;simp[hrt];refine hK _ _ _ ?_;clear K' hK;with_reducible refine aX (by simp) ?_;refine aA ?_;refine aR fun K' hK=> ?_
         simp;refine hK _ _ _ ?_;clear K' hK;with_reducible refine aw_ret ?_
         simp[blockK,loopK,Post,resA,res1,expT,expA,exp1,expM,expL,okT,okA,ok1,rowOf,Tryz.f42];exact(hbad (by simp[okAt,hp,hrt])).symm
        | true=>
         with_reducible refine aA ?_;refine aR fun K' hK=> ?_
         simp[u5,u6,h6,a1,a2];refine acall_flat (right32_ok p.name p.ver b1 b2) rfl (by simp) ?_;by_cases a4:keyP p∈keysTo t i
         ·have a5:decide (keyP p∈keysTo t i)=true:=decide_eq_true a4;have lk:=lookupK h0 (keyP p);rw[a5]at lk;simp[hrt,u3,u7,h7,lk];refine hK _ _ _ ?_;clear K' hK;with_reducible refine aX (by simp) ?_;refine aA ?_;refine aR fun K' hK=> ?_
          simp;refine hK _ _ _ ?_;clear K' hK;with_reducible refine aw_ret ?_
          simp[blockK,loopK,Post,resA,res1,expT,expA,exp1,expM,expL,okT,okA,ok1,rowOf,Tryz.f42];exact(hbad (by simp only[okAt,hp,a4,not_true,decide_false,Bool.false_and,Bool.and_false])).symm
         ·have a5:decide (keyP p∈keysTo t i)=false:=decide_eq_false a4;have lk:=lookupK h0 (keyP p);rw[a5]at lk;simp[hrt,u3,u7,h7,lk];refine hK _ _ _ ?_;clear K' hK;with_reducible refine aYk (by simp) ?_
          have hS:keysTo t i++[keyP p]=keysTo t (i+1):=(by rw[keys_succ (by omega),hp]);have up:=updateK h0 a4;rw[hS]at up;with_reducible refine aR fun K' hK=> ?_
          simp[u3,u7,h7,up];refine hK _ _ _ ?_;clear K' hK;have m1:¬nx=0:=(by omega);have j1:(0:Int)≤p.par:=(by omega);have j2:p.par<(t.length:Int):=(by omega);have j3:p.par.toNat<(dD t i).length:=(by rw[dD_len];omega);have j4:(0:Int)≤(i:Int)+1:=(by omega);have j5:(i:Int)+1<(t.length:Int):=(by omega);have j6:i+1<(dD t i).length:=(by rw[dD_len];omega);have hd:=hD _ (nth_mem j3);generalize hdd:nth (dD t i) p.par.toNat=d at hd;have hwd:IntKind.i64.wrap (d+1)=d+1:=wrap64 (by omega) (by omega);have hput:putO (flat iC (dD t i)) 1 (i+1) 0 [iV (d+1)]=flat iC (dD t (i+1)):=by
           rw[dD,hp,hdd];exact putO_flat j6 (d+1)
          with_reducible refine aR fun K' hK=> ?_
          simp[m1,u4,u5,u6,h6,h1,hw,j1,j2,j3,j4,j5,j6,hdd,hwd,hput];refine hK _ _ _ ?_;clear K' hK;have k1:i+1<(dD t (i+1)).length:=(by rw[dD_len];omega);have k2:nth (dD t (i+1)) (i+1)=d+1:=by
           rw[nth_eq k1];simp only[dD,List.getElem_set_self,hp,hdd]
          by_cases k3:(12:Int)<d+1
          ·skip;with_reducible refine aR fun K' hK=> ?_
           simp[u4,u5,hw,j4,j5,k1,k2,k3];refine hK _ _ _ ?_;clear K' hK;with_reducible refine aU (by simp) ?_;refine aA ?_;refine aR fun K' hK=> ?_
           simp;refine hK _ _ _ ?_;clear K' hK;with_reducible refine aw_ret ?_
           simp[blockK,loopK,Post,resA,res1,expT,expA,exp1,expM,expL,okT,okA,ok1,rowOf,Tryz.f42];exact(hbad (by simp only[okAt,hp,hdd,show¬d+1≤12 by omega,decide_false,Bool.and_false])).symm
          ·skip;with_reducible refine aR fun K' hK=> ?_
           simp[u4,u5,hw,j4,j5,k1,k2,k3];refine hK _ _ _ ?_;clear K' hK;with_reducible refine aVk (by simp) ?_;refine aw_skipL ?_
           refine blockK_normal ?_;with_reducible refine aS fun K' hK=> ?_
           simp[u30,hw];refine hK _ _ _ ?_;clear K' hK;refine aw_skipL (loopK_normal ?_ ?_)
           ·refine⟨by simp[u3],by simp[u4],by simp[u28],by simp[u29],hny,i+1,by simp[hw],by omega,by simp[m1],by simp,?_,?_⟩
            ·rw[range_all,hall];simp[okAt,hp,hdd,hrt,a4];omega
            ·intro x hx;rw[dD,hp,hdd]at hx;rcases List.mem_or_eq_of_mem_set hx with hx | rfl
             ·exact hD x hx
             ·omega
           ·simp[s30,hw];omega
     ·skip;with_reducible refine aw_exit ?_
      refine loopK_exit (blockK_exit ?_);with_reducible refine aR fun K' hK=> ?_
      simp;refine hK _ _ _ ?_;clear K' hK;with_reducible refine aw_retL ?_
      simp[blockK,loopK,Post,resA,res1,expT,expA,exp1,expM,expL,okT,okA,ok1,rowOf,Tryz.f42];have:i=t.tail.length:=(by omega);rw[this]at hall;rw[checkN,if_neg h2',if_neg (by simp[he,hr]),treeOk,hall];rfl
   ·with_reducible refine aA ?_;refine aR fun K' hK=> ?_
    simp[hz,hpos,hpos',hr,he,rootC];refine hK _ _ _ ?_;clear K' hK;with_reducible refine aX (by simp) ?_;refine aA ?_;refine aR fun K' hK=> ?_
    simp;refine hK _ _ _ ?_;clear K' hK;with_reducible refine aw_ret ?_
    simp[blockK,loopK,Post,resA,res1,expT,expA,exp1,expM,expL,okT,okA,ok1,rowOf,Tryz.f42];rw[checkN,if_neg h2',if_pos (.inr hr)]
set_option maxRecDepth 100000
set_option maxHeartbeats 4000000
def holdsF (t:List Pl) (i:Int):Bool:=decide (checkN t=0)&&(decide (0≤i)&&decide (i<t.length))
theorem holds43_ok (t:List Pl) (ht:OKs t) (i:Int):CallsOK Tryz.prog 123 [rowT Pl.cells t,iV i] (bV (holdsF t i)) []:=by
 refine callsOK mixed Tryz.call123 Tryz.func123 rfl (by rw[Tryz.ntmps123];simp) ?_ rfl;rw[Tryz.ntmps123];with_reducible refine aR fun K' hK=> ?_
 simp;refine hK _ _ _ ?_;clear K' hK;with_reducible refine aR fun K' hK=> ?_
 simp;refine acall_flat (check18_ok t ht) rfl (by simp) ?_;by_cases h1:checkN t=0
 ·by_cases h2:0≤i
  ·simp[h1,h2];refine hK _ _ _ ?_;clear K' hK;with_reducible refine aw_retL ?_
   simp[blockK,loopK,Post,resA,res1,expT,expA,exp1,expM,expL,okT,okA,ok1,rowOf,Tryz.f123];simp[holdsF,h1,h2]
  ·simp[h1,h2];refine hK _ _ _ ?_;clear K' hK;with_reducible refine aw_retL ?_
   simp[blockK,loopK,Post,resA,res1,expT,expA,exp1,expM,expL,okT,okA,ok1,rowOf,Tryz.f123];simp[holdsF,h1,h2]
 ·simp[h1];refine hK _ _ _ ?_;clear K' hK;with_reducible refine aw_retL ?_
  simp[blockK,loopK,Post,resA,res1,expT,expA,exp1,expM,expL,okT,okA,ok1,rowOf,Tryz.f123];simp[holdsF,h1]
def parN (t:List Pl) (i:Nat):Int:=(nth t i).par
def Dn (t:List Pl):Prop:=∀i,i<t.length→parN t i<i
theorem check_good {t:List Pl} (h:checkN t=0):t.length≤200∧t≠[]∧nth t 0=rootP∧∀i,i+1<t.length→okAt t i=true:=by
 unfold checkN at h;by_cases h1:200<t.length
 ·rw[if_pos h1]at h;cases h
 ·rw[if_neg h1]at h;by_cases h2:t=[]∨nth t 0≠rootP
  ·rw[if_pos h2]at h;cases h
  ·rw[if_neg h2]at h;have h3:¬t=[]∧nth t 0=rootP:=(by simpa using h2);by_cases h4:treeOk t=true
   ·refine⟨by omega,h3.1,h3.2,fun i hi=> ?_⟩;unfold treeOk at h4;rw[List.all_eq_true]at h4;exact h4 i (List.mem_range.2 (by rw[List.length_tail];omega))
   ·rw[if_neg h4]at h;cases h
theorem nth_tail {t:List Pl} {i:Nat} (h:i+1<t.length):nth t.tail i=nth t (i+1):=by
 rw[nth_eq h,nth_eq (by rw[List.length_tail];omega)];simp
theorem okAt_par {t:List Pl} {i:Nat} (h:i+1<t.length) (ho:okAt t i=true):0≤parN t (i+1)∧parN t (i+1)≤i:=by
 simp only[okAt,Bool.and_eq_true,decide_eq_true_eq,nth_tail h]at ho;exact⟨ho.1,ho.2.1⟩
theorem good_par {t:List Pl} (h:checkN t=0):parN t 0= -1∧∀i,i+1<t.length→0≤parN t (i+1)∧parN t (i+1)≤i:=by
 obtain⟨_,_,h3,h4⟩:=check_good h;exact⟨by rw[parN,h3];rfl,fun i hi=>okAt_par hi (h4 i hi)⟩
theorem good_dn {t:List Pl} (h:checkN t=0):Dn t:=by
 obtain⟨h1,h2⟩:=good_par h;intro i hi;cases i with
 | zero=>rw[h1];omega
 | succ i=>have:=h2 i hi;omega
def upF (t:List Pl):Nat→Nat→List Nat
 | 0,_=>[]
 | k+1,i=>i::(if parN t i<0 then[]else upF t k (parN t i).toNat)
def upN (t:List Pl) (i:Nat):List Nat:=upF t (i+1) i
theorem upF_eq {t:List Pl} (hd:Dn t):∀(m k i:Nat),i<k→i<m→i<t.length→upF t k i=upN t i
 | 0,k,i,_,h,_=>by omega
 | m+1,0,i,h,_,_=>by omega
 | m+1,k+1,i,hk,hm,hi=>by
  have:=hd i hi;unfold upN;rw[upF,upF];by_cases hp:parN t i<0
  ·rw[if_pos hp,if_pos hp]
  ·rw[if_neg hp,if_neg hp,upF_eq hd m k _ (by omega) (by omega) (by omega),upF_eq hd m i _ (by omega) (by omega) (by omega)]
theorem up_step {t:List Pl} (hd:Dn t) {i:Nat} (hi:i<t.length):upN t i=i::(if parN t i<0 then[]else upN t (parN t i).toNat):=by
 have:=hd i hi
 conv=>lhs;unfold upN
 rw[upF];by_cases hp:parN t i<0
 ·rw[if_pos hp,if_pos hp]
 ·rw[if_neg hp,if_neg hp,upF_eq hd (i+1) i _ (by omega) (by omega) (by omega)]
theorem up60 {t:List Pl} (hd:Dn t) (hl:t.length≤1000000000) {L:Lp} {K:Exit→KS} {c:Code} (hc:Tryz.f173.body=some c) {id b1 b2:Nat} (J:Nat→Hp→Nat→Prop)
  (hJ:∀i G nx,J i G nx→i<t.length∧G b1=some (.var 3 [iV i])∧G b2=some (.var 29 [rowT Pl.cells t])∧G id=some (L.o .ready none))
  (hy:∀i G nx,J i G nx→YldK Tryz.prog id [iV i] (fun v G' nx'=>(v=bV true∧G' b1=some (.var 3 [iV i])∧G' b2=some (.var 29 [rowT Pl.cells t])∧
    (0≤parN t i→J (parN t i).toNat (G'.upd b1 (.var 3 [iV (parN t i)])) nx')∧(parN t i<0→rangeK L id K .normal L.s (G'.upd b1 (.var 3 [iV (parN t i)])) nx'))∨
    (v=bV false∧rangeK L id K .ret L.s G' nx')) G nx)
  {i:Nat} {G:Hp} {nx:Nat} (h:J i G nx):AW Tryz.prog 15 c (rangeK L id K) (argSl [.yl id,.ptr b1 0,.ptr b2 0]) G nx:=by
 cases hc;with_reducible refine aw_toS (aw_block ?_)
 refine aw_loop (fun s G nx=>s 0=.yl id∧s 1=.ptr b1 0∧s 2=.ptr b2 0∧∃n:Int,G b1=some (.var 3 [iV n])∧((∃i:Nat,n=i∧J i G nx)∨(n<0∧rangeK L id K .normal L.s G nx))) (fun _ G _=>match G b1 with | some (.var _ [.v (.int _ n)])=>(n+1).toNat | _=>0) ?_ ?_
 ·exact⟨rfl,rfl,rfl,i,(hJ _ _ _ h).2.1,.inl ⟨i,rfl,h⟩⟩
 ·rintro s G nx-⟨s0,s1,s2,n,g1,hn⟩;rcases hn with⟨i,rfl,hi⟩ | ⟨hn,hk⟩
  ·obtain⟨hlt,_,g2,gid⟩:=hJ _ _ _ hi;have hp:=hd i hlt;with_reducible refine aA ?_;refine aR fun K' hK=> ?_
   simp[s1,g1];refine hK _ _ _ ?_;clear K' hK;with_reducible refine aXk (by simp) ?_;refine aw_block ?_;refine aR fun K' hK=> ?_
   simp[s0,s1,g1];refine⟨⟨_,_,_,_,_,_,_,gid⟩,(hy _ _ _ hi).mono ?_⟩;rintro v G' nx' (⟨rfl,h1,h2,h3,h4⟩ | ⟨rfl,h1⟩)
   ·simp;refine hK _ _ _ ?_;clear K' hK;with_reducible refine aVk (by simp) ?_;refine aw_skipL ?_
    refine blockK_normal ?_;have hlt':(i:Int)<t.length:=(by omega);have hpi:(nth t i).par=parN t i:=rfl;with_reducible refine aS fun K' hK=> ?_
    simp[s1,s2,h1,h2,hlt,hlt',hpi];refine hK _ _ _ ?_;clear K' hK;refine aw_skipL (loopK_normal ?_ ?_)
    ·refine⟨by simp[s0],by simp[s1],by simp[s2],parN t i,by simp,?_⟩;by_cases hneg:parN t i<0
     ·exact .inr ⟨hneg,h4 hneg⟩
     ·exact .inl ⟨(parN t i).toNat,by omega,h3 (by omega)⟩
    ·simp[g1];omega
   ·simp;refine hK _ _ _ ?_;clear K' hK;with_reducible refine aU (by simp) ?_
    refine aw_ret (blockK_ret (loopK_ret (blockK_ret ?_)));exact⟨.inr rfl,h1.2⟩
  ·with_reducible refine aA ?_;refine aR fun K' hK=> ?_
   simp[s1,g1];refine hK _ _ _ ?_;clear K' hK;have hn':¬0≤n:=(by omega);with_reducible refine aY (by simp[hn']) ?_;refine aw_exit ?_
   refine loopK_exit (blockK_exit ?_);refine aw_skipL ?_;exact⟨.inl rfl,hk.2⟩
set_option maxRecDepth 100000
set_option maxHeartbeats 4000000
theorem upF_len {t:List Pl} :∀(k i:Nat),(upF t k i).length≤k
 | 0,i=>by simp[upF]
 | k+1,i=>by
  rw[upF];split
  ·simp
  ·have:=upF_len (t:=t) k (parN t i).toNat;simp;omega
theorem up_len {t:List Pl} (i:Nat):(upN t i).length≤i+1:=upF_len _ _
def heightN (t:List Pl) (i:Nat):Int:=(upN t i).length-1
def underF (t:List Pl) (i:Nat) (x:Int):Bool:=(upN t i).any fun j=>decide ((j:Int)=x)
theorem under40_ok (t:List Pl) (hd:Dn t) (hl:t.length≤1000000000) (i:Nat) (hi:i<t.length) (x:Int):CallsOK Tryz.prog 122 [rowT Pl.cells t,iV i,iV x] (bV (underF t i x)) []:=by
 refine callsOK mixed Tryz.call122 Tryz.func122 rfl (by rw[Tryz.ntmps122];simp) ?_ rfl;rw[Tryz.ntmps122];with_reducible refine aR fun K' hK=> ?_
 simp;refine hK _ _ _ ?_;clear K' hK;with_reducible refine aA ?_;refine aR fun K' hK=> ?_
 simp;refine acall_inlK (inlK mixed Tryz.call135 Tryz.func135 rfl (by rw[Tryz.ntmps135];simp) fun hf=> ?_);rw[Tryz.ntmps135];with_reducible refine aR fun K' hK=> ?_
 simp;refine hK _ _ _ ?_;clear K' hK;with_reducible refine aR fun K' hK=> ?_
 simp;refine hK _ _ _ ?_;clear K' hK;with_reducible refine aw_retL ?_
 simp[blockK,loopK,Post,resA,res1,expT,expA,exp1,expM,expL,okT,okA,ok1,rowOf,Tryz.f135];refine hK _ _ _ ?_;clear K' hK;refine aw_gen (fun s G nx=>s 5=.ptr 0 0∧s 6=.ptr 1 0∧s 10=.fn 173 [.ptr 3 0,.ptr 2 0]∧nx=4∧G 0=some (.var 3 [iV x])∧G 1=some (.var 4 [bV false])∧G 2=some (.var 29 [rowT Pl.cells t])∧G 3=some (.var 3 [iV i])) ?_ ?_
 ·simp;rfl
 rintro s G nx ⟨s5,s6,s10,rfl,g0,g1,g2,g3⟩;with_reducible refine aw_block ?_
 refine aw_range (f:=173) (fn:=Tryz.f173) mixed s10 Tryz.call173 Tryz.func173 rfl (by rw[Tryz.ntmps173];simp) rfl ?_;rw[Tryz.ntmps173];generalize hL:(Lp.mk s 15 _ _ _)=L;have hLs:L.s=s:=(by subst hL;rfl);refine up60 hd hl rfl (fun j G nx=>underF t i x=(upN t j).any (fun j=>decide ((j:Int)=x))∧G 0=some (.var 3 [iV x])∧G 1=some (.var 4 [bV false])∧j<t.length∧G 3=some (.var 3 [iV j])∧G 2=some (.var 29 [rowT Pl.cells t])∧G 4=some (L.o .ready none)) ?_ ?_ ⟨rfl,by simp[g0],by simp[g1],hi,by simp[g3],by simp[g2],by simp⟩
 ·rintro j G nx ⟨h1,h0,h6,h2,h3,h4,h5⟩;exact⟨h2,h3,h4,h5⟩
 ·rintro j G nx ⟨h1,h0,h6,h2,h3,h4,h5⟩;have hst:=up_step hd h2;rw[hst,List.any_cons]at h1;have hround:∀K:AV→Hp→Nat→Prop,(¬(j:Int)=x→K (bV true) ((G.upd 4 (L.o .busy none)).upd 4 (L.o .ready none)) nx)→((j:Int)=x→K (bV false) (((G.upd 4 (L.o .busy none)).upd 1 (.var 4 [bV true])).upd 4 (L.o .done (some .ret))) nx)→YldK Tryz.prog 4 [iV j] K G nx:=by
   subst hL;intro K k1 k2;refine yldK mixed h5 rfl (by simp) rfl rfl fun hf=> ?_;with_reducible refine aS fun K' hK=> ?_
   simp;refine hK _ _ _ ?_;clear K' hK;refine⟨rfl,h5,?_⟩;dsimp only;generalize (Lp.mk s 15 _ _ _)=L at h5 k1 k2⊢;with_reducible refine aw_toS (aw_block ?_);refine aR fun K' hK=> ?_
   simp[s5,h0];refine hK _ _ _ ?_;clear K' hK;by_cases hx:(j:Int)=x
   ·skip;with_reducible refine aU (by simp[hx]) ?_;refine aA ?_;refine aR fun K' hK=> ?_
    simp[s6,h6];refine hK _ _ _ ?_;clear K' hK;refine aw_ret ?_;refine blockK_ret ?_;refine roundK_ret (by simp) ?_;exact k2 hx
   ·skip;with_reducible refine aVk (by simp[hx]) ?_;refine aw_skipL ?_
    refine blockK_normal ?_;refine aw_skipL ?_;refine roundK_normal (by simp) ?_;exact k1 hx
  refine hround _ (fun hx=> .inl ⟨rfl,by simp[h3],by simp[h4],fun hp=> ?_,fun hp=> ?_⟩) (fun hx=> .inr ⟨rfl,?_⟩)
  ·rw[if_neg (by omega)]at h1;have:=hd j h2;simp only[hx,decide_false,Bool.false_or]at h1;exact⟨h1,by simp[h0],by simp[h6],by omega,by simp;omega,by simp[h4],by simp⟩
  ·rw[if_pos hp]at h1;refine rangeK_on (.inl rfl) (by simp) ?_;rw[hLs];refine blockK_normal ?_;with_reducible refine aR fun K' hK=> ?_
   simp[s6,h6];refine hK _ _ _ ?_;clear K' hK;with_reducible refine aw_retL ?_
   simp[blockK,loopK,Post,resA,res1,expT,expA,exp1,expM,expL,okT,okA,ok1,rowOf,Tryz.f122,s6];rw[h1];simp[hx]
  ·refine rangeK_ret (.inr rfl) (by simp) ?_;rw[hLs];refine blockK_ret ?_;simp[Post,resA,res1,expT,expA,exp1,expM,expL,okT,okA,ok1,rowOf,Tryz.f122,s6];rw[h1];simp[hx]
set_option maxRecDepth 100000
set_option maxHeartbeats 4000000
def resL (t:List Pl) (name:Bs):List Nat→Int
 | []=> -1
 | j::r=>match chF t j name with
  | some k=>k
  | none=>resL t name r
def resolveN (t:List Pl) (i:Int) (name:Bs):Int:=if holdsF t i then resL t name (upN t i.toNat)else-1
theorem holdsF_inv {t:List Pl} {i:Int} (h:holdsF t i=true):checkN t=0∧0≤i∧i<t.length:=by
 simpa [holdsF]using h
theorem resolve19_ok (t:List Pl) (ht:OKs t) (i:Int) (name:Bs):CallsOK Tryz.prog 82 [rowT Pl.cells t,iV i,sV name] (iV (resolveN t i name)) []:=by
 refine callsOK mixed Tryz.call82 Tryz.func82 rfl (by rw[Tryz.ntmps82];simp) ?_ rfl;rw[Tryz.ntmps82];with_reducible refine aR fun K' hK=> ?_
 simp;refine hK _ _ _ ?_;clear K' hK;refine aw_scopeL ?_;with_reducible refine aA ?_;refine aR fun K' hK=> ?_
 simp;refine acall_flat (holds43_ok t ht i) rfl (by simp;rfl) ?_;cases hh:holdsF t i with
 | false=>
  simp;refine hK _ _ _ ?_;clear K' hK;with_reducible refine aX (by simp) ?_;refine aA ?_;refine aR fun K' hK=> ?_
  simp;refine hK _ _ _ ?_;clear K' hK;refine aw_ret ?_;simp[scopeK,Post,resA,res1,expT,expA,exp1,expM,expL,okT,okA,ok1,rowOf,Tryz.f82];simp[resolveN,hh]
 | true=>
  obtain⟨hch,hi0,hi1⟩:=holdsF_inv hh;obtain⟨n,rfl⟩:∃n:Nat,i=n:=⟨i.toNat,by omega⟩;have hn:n<t.length:=(by omega);have hd:=good_dn hch;have hl:=ht.1;simp;refine hK _ _ _ ?_;clear K' hK;with_reducible refine aYk (by simp) ?_;refine aR fun K' hK=> ?_
  simp;refine hK _ _ _ ?_;clear K' hK;refine aw_label ?_;with_reducible refine aA ?_;refine aR fun K' hK=> ?_
  simp;refine acall_inlK (inlK mixed Tryz.call135 Tryz.func135 rfl (by rw[Tryz.ntmps135];simp) fun hf=> ?_);rw[Tryz.ntmps135];with_reducible refine aR fun K' hK=> ?_
  simp;refine hK _ _ _ ?_;clear K' hK;with_reducible refine aR fun K' hK=> ?_
  simp;refine hK _ _ _ ?_;clear K' hK;with_reducible refine aw_retL ?_
  simp[blockK,loopK,Post,resA,res1,expT,expA,exp1,expM,expL,okT,okA,ok1,rowOf,Tryz.f135];refine hK _ _ _ ?_;clear K' hK;refine aw_gen (fun s G nx=>s 3=.ptr 0 0∧s 5=.ptr 1 0∧s 7=.ptr 2 0∧s 17=.fn 173 [.ptr 4 0,.ptr 3 0]∧nx=5∧G 0=some (.var 29 [rowT Pl.cells t])∧G 1=some (.var 9 [sV name])∧G 2=some (.var 3 [iV (-1)])∧G 3=some (.var 29 [rowT Pl.cells t])∧G 4=some (.var 3 [iV n])) ?_ ?_
  ·simp;exact⟨rfl,rfl⟩
  rintro s G nx ⟨s3,s5,s7,s17,rfl,g0,g1,g2,g3,g4⟩;with_reducible refine aw_block ?_
  refine aw_range (f:=173) (fn:=Tryz.f173) mixed s17 Tryz.call173 Tryz.func173 rfl (by rw[Tryz.ntmps173];simp) rfl ?_;rw[Tryz.ntmps173];generalize hL:(Lp.mk s 41 _ _ _)=L;have hLs:L.s=s:=(by subst hL;rfl);refine up60 hd hl rfl (fun j G nx=>6≤nx∧resL t name (upN t n)=resL t name (upN t j)∧G 0=some (.var 29 [rowT Pl.cells t])∧G 1=some (.var 9 [sV name])∧G 2=some (.var 3 [iV (-1)])∧j<t.length∧G 4=some (.var 3 [iV j])∧G 3=some (.var 29 [rowT Pl.cells t])∧G 5=some (L.o .ready none)) ?_ ?_ ⟨by omega,rfl,by simp[g0],by simp[g1],by simp[g2],hn,by simp[g4],by simp[g3],by simp⟩
  ·rintro j G nx ⟨hnx,h1,h0,h6,h7,h2,h3,h4,h5⟩;exact⟨h2,h3,h4,h5⟩
  ·rintro j G nx ⟨hnx,h1,h0,h6,h7,h2,h3,h4,h5⟩;have hst:=up_step hd h2;rw[hst,resL]at h1;have hround:∀K:AV→Hp→Nat→Prop,(chF t j name=none→∀G' nx',nx≤nx'→(∀i,i<5→G' i=G i)→G' 5=some (L.o .ready none)→K (bV true) G' nx')→
     (∀k:Nat,chF t j name=some k→∀G' nx',nx≤nx'→G' 2=some (.var 3 [iV k])→G' 5=some (L.o .done (some (.exit 0)))→K (bV false) G' nx')→YldK Tryz.prog 5 [iV j] K G nx:=by
    subst hL;intro K k1 k2;refine yldK mixed h5 rfl (by simp) rfl rfl fun hf=> ?_;with_reducible refine aS fun K' hK=> ?_
    simp;refine hK _ _ _ ?_;clear K' hK;refine⟨rfl,h5,?_⟩;dsimp only;generalize (Lp.mk s 41 _ _ _)=L at h5 k1 k2⊢;with_reducible refine aw_toS (aw_block ?_)
    have hpos:1≤t.length:=(by omega);have htl:t.tail.length=t.length-1:=List.length_tail;have htk:t.tail.take (t.length-1)=t.tail:=List.take_of_length_le (by omega);with_reducible refine aR fun K' hK=> ?_
    simp[s3,h0,hpos,bnd_some,htk];refine hK _ _ _ ?_;clear K' hK;with_reducible refine aw_toS (aw_block ?_)
    refine aw_loop (fun s' G' nx'=>s' 5=.ptr 1 0∧s' 7=.ptr 2 0∧s' 8=iV j∧s' 20=rowT Pl.cells t.tail∧s' 21=iV (t.length-1:Nat)∧nx≤nx'∧(∀i,i<5→G' i=G i)∧G' 5=some (L.o .busy none)∧∃m:Nat,s' 22=iV m∧m≤t.length-1∧∀i,i≤m→chP j name (nth t i)=false) (fun s _ _=>match s 22 with | .v (.int _ n)=>t.length-n.toNat | _=>0) ?_ ?_
    ·exact⟨by simp[s5],by simp[s7],by simp,by simp,by simp,by omega,fun i hi=>by simp;omega,by simp,0,by simp,by omega,fun i hi=>by
      have:i=0:=(by omega);subst this;have:parN t 0= -1:=(good_par hch).1;have h9:¬(nth t 0).par=(j:Int):=(by unfold parN at this;omega);simp[chP,h9]⟩
    ·rintro s' G' nx'-⟨u5,u7,u8,u20,u21,hnx',hag,hg5,m,u22,hm,hno⟩;have hw:IntKind.i64.wrap (↑m+1)=((m+1:Nat):Int):=wrapS (by omega);with_reducible refine aR fun K' hK=> ?_
     simp[u21,u22];refine hK _ _ _ ?_;clear K' hK;with_reducible refine aC fun A B hA hB=> ?_
     simp;refine⟨fun hi2=>hA ?_,fun hi2=>hB ?_⟩<;>clear hA hB A B<;>(try simp at hi2)<;>(try with_reducible refine aK ?_)
     ·skip;with_reducible refine aw_block ?_
      have hi3:m<t.length-1:=(by omega);have hi4:(m:Int)<(t.length-1:Nat):=(by omega);with_reducible refine aR fun K' hK=> ?_
      simp[u20,u22,hi3,hi4];refine hK _ _ _ ?_;clear K' hK;have hp1:nth t.tail m=nth t (m+1):=nth_tail (by omega);rw[hp1];generalize hp:nth t (m+1)=p;have q0:¬0=nx':=(by omega);have q1:¬1=nx':=(by omega);have q2:¬2=nx':=(by omega);have q3:¬3=nx':=(by omega);have q4:¬4=nx':=(by omega);have q5:¬5=nx':=(by omega);have e0:=hag 0 (by omega);have e1:=hag 1 (by omega);have e2:=hag 2 (by omega);have e3:=hag 3 (by omega);have e4:=hag 4 (by omega);rw[h6]at e1;rw[h7]at e2;have hag':∀i,i<5→(G'.upd nx' (.var 58 p.cells)) i=G i:=fun i hi=>(by rw[Hp.upd_ne _ _ (by omega)];exact hag i hi);refine aw_gen (fun v H ny=>v 5=.ptr 1 0∧v 7=.ptr 2 0∧v 8=iV j∧v 20=rowT Pl.cells t.tail∧v 21=iV (t.length-1:Nat)∧v 22=iV m∧v 9=iV m∧v 10=.ptr nx' 0∧nx≤ny∧(∀i,i<5→H i=G i)∧H 1=some (.var 9 [sV name])∧H 2=some (.var 3 [iV (-1)])∧H 5=some (L.o .busy none)∧H nx'=some (.var 58 p.cells)) ?_ ?_
      ·refine⟨by simp[u5],by simp[u7],by simp[u8],by simp[u20],by simp[u21],by simp[u22],by simp,by simp,by omega,?_,by simp[q1,e1],by simp[q2,e2],by simp[q5,hg5],by simp⟩;intro i hi;have:¬i=nx':=(by omega);simp[this,hag i hi]
      rintro v H ny ⟨v5,v7,v8,v20,v21,v22,v9,v10,hny,hagH,H1,H2,H5,Hx⟩;by_cases c1:p.par=j
      ·by_cases c2:p.name=name
       ·skip;with_reducible refine aR fun K' hK=> ?_
        simp[v5,v8,v10,Hx,H1,c1,c2];refine hK _ _ _ ?_;clear K' hK;with_reducible refine aU (by simp) ?_;refine aA ?_;refine aR fun K' hK=> ?_
        simp[v9,v7,hw,H2];refine hK _ _ _ ?_;clear K' hK;have hf:chF t j name=some (m+1):=by
         unfold chF;rw[List.findIdx?_eq_some_iff_getElem];refine⟨by omega,by rw[←nth_eq (by omega),hp];simp[chP,c1,c2],fun i hi=> ?_⟩;rw[←nth_eq (by omega)];simpa using hno i (by omega)
        refine aw_exit (blockK_pass (by decide) (loopK_exit (blockK_pass (by decide) (blockK_pass (by decide) ?_))));refine roundK_exit (by simp[H5]) ?_;exact k2 _ hf _ _ hny (by simp) (by simp)
       ·skip;with_reducible refine aR fun K' hK=> ?_
        simp[v5,v8,v10,Hx,H1,c1,c2];refine hK _ _ _ ?_;clear K' hK;with_reducible refine aVk (by simp) ?_;refine aw_skipL ?_
        refine blockK_normal ?_;with_reducible refine aS fun K' hK=> ?_
        simp[v22,hw];refine hK _ _ _ ?_;clear K' hK;refine aw_skipL (loopK_normal ?_ ?_)
        ·refine⟨by simp[v5],by simp[v7],by simp[v8],by simp[v20],by simp[v21],hny,hagH,H5,m+1,by simp[hw],by omega,fun i hi=> ?_⟩;rcases Nat.lt_or_ge m i with h | h
         ·have:i=m+1:=(by omega);subst this;rw[hp];simp[chP,c2]
         ·exact hno i h
        ·simp[u22,hw];omega
      ·skip;with_reducible refine aR fun K' hK=> ?_
       simp[v5,v8,v10,Hx,H1,c1];refine hK _ _ _ ?_;clear K' hK;with_reducible refine aVk (by simp) ?_;refine aw_skipL ?_
       refine blockK_normal ?_;with_reducible refine aS fun K' hK=> ?_
       simp[v22,hw];refine hK _ _ _ ?_;clear K' hK;refine aw_skipL (loopK_normal ?_ ?_)
       ·refine⟨by simp[v5],by simp[v7],by simp[v8],by simp[v20],by simp[v21],hny,hagH,H5,m+1,by simp[hw],by omega,fun i hi=> ?_⟩;rcases Nat.lt_or_ge m i with h | h
        ·have:i=m+1:=(by omega);subst this;rw[hp];simp[chP,c1]
        ·exact hno i h
       ·simp[u22,hw];omega
     ·skip;with_reducible refine aw_exit ?_
      refine loopK_exit (blockK_exit ?_);have hf:chF t j name=none:=by
       unfold chF;rw[List.findIdx?_eq_none_iff];intro d hd;obtain⟨i,hi,rfl⟩:=List.mem_iff_getElem.1 hd;rw[←nth_eq hi];exact hno i (by omega)
      refine aw_skipL ?_;refine blockK_normal ?_;refine aw_skipL ?_;refine roundK_normal hg5 ?_;exact k1 hf _ _ hnx' (fun i hi=>by rw[Hp.upd_ne _ _ (by omega)];exact hag i hi) (by simp)
   refine hround _ (fun hf G' nx' hnx' hag hg5=> .inl ⟨rfl,by rw[hag 4 (by omega)];exact h3,by rw[hag 3 (by omega)];exact h4,fun hp=> ?_,fun hp=> ?_⟩) (fun k hf G' nx' hnx' hg2 hg5=> .inr ⟨rfl,?_⟩)
   ·rw[hf,if_neg (by omega)]at h1;have:=hd j h2;exact⟨by omega,h1,by simp[hag,h0],by simp[hag,h6],by simp[hag,h7],by omega,by simp;omega,by simp[hag,h4],by simp[hg5]⟩
   ·rw[hf,if_pos hp]at h1;refine rangeK_on (.inl rfl) (by simp[hg5]) ?_;rw[hLs];refine blockK_normal ?_;have e2:=hag 2 (by omega);rw[h7]at e2;with_reducible refine aR fun K' hK=> ?_
    simp[s7,e2];refine hK _ _ _ ?_;clear K' hK;refine aw_retL ?_;simp[scopeK,Post,resA,res1,expT,expA,exp1,expM,expL,okT,okA,ok1,rowOf,Tryz.f82];rw[resolveN,hh,if_pos rfl,Int.toNat_natCast,h1];rfl
   ·rw[hf]at h1;refine rangeK_exit (.inr rfl) hg5 ?_;rw[hLs];refine blockK_exit ?_;with_reducible refine aR fun K' hK=> ?_
    simp[s7,hg2];refine hK _ _ _ ?_;clear K' hK;refine aw_retL ?_;simp[scopeK,Post,resA,res1,expT,expA,exp1,expM,expL,okT,okA,ok1,rowOf,Tryz.f82];rw[resolveN,hh,if_pos rfl,Int.toNat_natCast,h1]
set_option maxRecDepth 100000
set_option maxHeartbeats 4000000
theorem src_sl (P:Program) (G:Hp) (n:Nat) (cs:List AV):srcOf P G (.sl n cs)=some (n,cs):=rfl
theorem new20_ok:CallsOK Tryz.prog 48 [] (.row 0 1) [(58,flat Pl.cells [rootP])]:=by
 refine callsOK mixed Tryz.call48 Tryz.func48 rfl (by rw[Tryz.ntmps48];simp) ?_ rfl;rw[Tryz.ntmps48];with_reducible refine aR fun K' hK=> ?_
 simp;refine hK _ _ _ ?_;clear K' hK;with_reducible refine aR fun K' hK=> ?_
 simp;refine hK _ _ _ ?_;clear K' hK;with_reducible refine aw_retL ?_
 simp[blockK,loopK,Post,resA,res1,expT,expA,exp1,expM,expL,okT,okA,ok1,rowOf,Tryz.f48];rfl
theorem clone35_ok (l:List Pl) (hl:l.length<1000000000000) (hne:l≠[]):CallsOK Tryz.prog 114 [rowT Pl.cells l] (.row 0 l.length) [(58,flat Pl.cells l)]:=by
 refine callsOK mixed Tryz.call114 Tryz.func114 rfl (by rw[Tryz.ntmps114];simp) ?_ rfl;rw[Tryz.ntmps114];have h1:l.length≤9223372036854775807:=(by omega);have h2:l.length*64≤140737488355328:=(by omega);with_reducible refine aR fun K' hK=> ?_
 simp;refine hK _ _ _ ?_;clear K' hK;with_reducible refine aA ?_;refine aR fun K' hK=> ?_
 simp[hne];refine hK _ _ _ ?_;clear K' hK;with_reducible refine aYk (by simp) ?_;refine aR fun K' hK=> ?_
 simp[h1,h2];refine hK _ _ _ ?_;clear K' hK;with_reducible refine aw_retL ?_
 simp[blockK,loopK,Post,resA,res1,expT,expA,exp1,expM,expL,okT,okA,ok1,rowOf,Tryz.f114]
def addCode (t:List Pl) (i:Int) (name:Bs) (v:Ver):Int:=if checkN t≠0 then checkN t else if¬(0≤i∧i<t.length)then 151 else if rightF name v=false then 1 else
 if chF t i name≠none then 152 else if 200≤t.length∨12≤heightN t i.toNat then 2 else 0
def addT (t:List Pl) (i:Int) (name:Bs) (v:Ver):List Pl:=t++[⟨i,name,v⟩]
def addR (t:List Pl) (i:Int) (name:Bs) (v:Ver):List Pl:=if addCode t i name v=0 then addT t i name v else[]
def addI (t:List Pl) (i:Int) (name:Bs) (v:Ver):Int:=if addCode t i name v=0 then t.length else 0
set_option maxRecDepth 100000
set_option maxHeartbeats 4000000
def entI (M:List (Int×Int)):List (Value×AV):=M.map fun p=>(.int .i64 p.1,iV p.2)
def getI (M:List (Int×Int)) (k:Int):Int:=match M.find? (fun p=>decide (p.1=k))with
 | some p=>p.2
 | none=>0
@[simp] theorem mapI57:mapI Tryz.prog 130=some (3,.int .i64,3):=by kernel_rfl
@[simp] theorem zv3:zvI Tryz.prog 3=some (iV 0):=by kernel_rfl
theorem findInt (k:Int):∀(M:List (Int×Int)) (i:Nat),∃r,findI Tryz.prog 3 (.int .i64) (.int .i64 k) (entI M) i=some r∧((∃p∈M,p.1=k)→∃j,r=some (i+j)∧j<M.length∧∀h:j<M.length,M[j].2=getI M k)∧((∀p∈M,p.1≠k)→r=none)
 | [],i=>⟨none,rfl,fun⟨_,h,_⟩=>by simp at h,fun _=>rfl⟩
 | a::M,i=>by
  have hs:sameK Tryz.prog 3 (.int .i64) (.int .i64 k) (.int .i64 a.1)=some (decide (a.1=k)):=by
   simp[sameK,Instr.sameNow];rw[Bool.eq_iff_iff,beq_iff_eq,decide_eq_true_eq];exact⟨fun h=>h.symm,fun h=>h.symm⟩
  simp only[entI,List.map_cons,findI,hs];by_cases h:a.1=k
  ·exact⟨some i,by simp[h],fun _=>⟨0,rfl,by simp,fun _=>by simp[getI,h]⟩,fun hn=>absurd h (hn a (List.mem_cons_self ..))⟩
  ·obtain⟨r,h1,h2,h3⟩:=findInt k M (i+1);refine⟨r,by simpa [h,entI]using h1,fun⟨p,hp,hk⟩=> ?_,fun hm=>h3 (fun p hp=>hm p (List.mem_cons_of_mem _ hp))⟩;rcases List.mem_cons.1 hp with rfl | hp
   ·exact absurd hk h
   obtain⟨j,hj,hl,hg⟩:=h2 ⟨p,hp,hk⟩;refine⟨j+1,by rw[hj];congr 1;omega,by simp;omega,fun _=> ?_⟩;simp only[List.getElem_cons_succ,hg hl];simp[getI,h]
theorem lookupI {G:Hp} {id:Nat} {M:List (Int×Int)} (hG:G id=some (.map (entI M))) (k:Int):evLookup Tryz.prog G 130 (.mp id) (iV k) false=some (iV (getI M k)):=by
 obtain⟨r,h1,h2,h3⟩:=findInt k M 0;have hc:conc (iV k)=some (.int .i64 k):=rfl;have hk:keyOK Tryz.prog (.int .i64) (.int .i64 k)=true:=rfl;simp only[evLookup,mapI57,hc,hG,zv3,hk,if_true,h1];by_cases hm:∃p∈M,p.1=k
 ·obtain⟨j,rfl,hl,hg⟩:=h2 hm;have:(entI M)[j]? =some (.int .i64 M[j].1,iV M[j].2):=(by simp[entI,hl]);simp[this,hg hl]
 ·have hm':∀p∈M,p.1≠k:=fun p hp h=>hm ⟨p,hp,h⟩;rw[h3 hm'];have:M.find? (fun p=>decide (p.1=k))=none:=(by simpa [List.find?_eq_none]using hm');simp[getI,this]
theorem updateI {G:Hp} {id:Nat} {M:List (Int×Int)} (hG:G id=some (.map (entI M))) {k:Int} (hm:∀p∈M,p.1≠k) (n:Int):evMapUpdate Tryz.prog G 130 (.mp id) (iV k) (iV n)=some (G.upd id (.map (entI (M++[(k,n)])))):=by
 obtain⟨r,h1,h2,h3⟩:=findInt k M 0;have hc:conc (iV k)=some (.int .i64 k):=rfl;have hk:keyOK Tryz.prog (.int .i64) (.int .i64 k)=true:=rfl;simp only[evMapUpdate,mapI57,hc,hG,hk,if_true,h1,h3 hm];simp[entI]
def cutCode (t:List Pl) (i:Int):Int:=if checkN t≠0 then checkN t else if 1≤i∧i<t.length then 0 else 151
def keptN (t:List Pl) (i:Int) (k:Nat):List Nat:=(List.range k).filter fun j=> !underF t j i
def renum (t:List Pl) (i:Int) (n:Int):Int:=if n<0 then n else(keptN t i n.toNat).length
def cutP (t:List Pl) (i:Int) (j:Nat):Pl:= {nth t j with par:=renum t i (parN t j)}
def cutT (t:List Pl) (i:Int) (k:Nat):List Pl:=(keptN t i k).map (cutP t i)
def cutM (t:List Pl) (i:Int) (k:Nat):List (Int×Int):=(-1,-1)::(keptN t i k).map fun(j:Nat)=>((j:Int),renum t i j)
def cutR (t:List Pl) (i:Int):List Pl:=if cutCode t i=0 then cutT t i t.length else[]
theorem getI_eq {M:List (Int×Int)} {f:Int→Int} (hM:∀p∈M,p.2=f p.1) {k:Int} (h:∃p∈M,p.1=k):getI M k=f k:=by
 obtain⟨p,hp,hk⟩:=h;unfold getI;cases hf:M.find? (fun p=>decide (p.1=k))with
 | none=>
  rw[List.find?_eq_none]at hf;exact absurd hk (by simpa using hf p hp)
 | some q=>
  have h1:=List.mem_of_find?_eq_some hf;have h2:q.1=k:=(by simpa using List.find?_some hf);show q.2=f k;rw[hM q h1,h2]
theorem kept_succ {t:List Pl} {i:Int} {k:Nat} :keptN t i (k+1)=keptN t i k++if underF t k i=true then[]else[k]:=by
 unfold keptN;rw[List.range_succ,List.filter_append];congr 1;cases h:underF t k i<;>simp[h]
theorem under_step {t:List Pl} (hd:Dn t) {k:Nat} (hk:k<t.length) (i:Int):underF t k i=(decide ((k:Int)=i) || (!decide (parN t k<0)&&underF t (parN t k).toNat i)):=by
 unfold underF;rw[up_step hd hk,List.any_cons];by_cases h:parN t k<0
 ·simp[h]
 ·simp[h]
theorem cutM_val {t:List Pl} {i:Int} {k:Nat} :∀p∈cutM t i k,p.2=renum t i p.1:=by
 intro p hp;rcases List.mem_cons.1 hp with rfl | hp
 ·simp[renum]
 ·obtain⟨j,_,rfl⟩:=List.mem_map.1 hp;rfl
theorem cutM_new {t:List Pl} {i:Int} {k:Nat} :∀p∈cutM t i k,p.1≠(k:Int):=by
 intro p hp;rcases List.mem_cons.1 hp with rfl | hp
 ·show(-1:Int)≠k;omega
 ·obtain⟨j,hj,rfl⟩:=List.mem_map.1 hp;have:=List.mem_range.1 (List.mem_filter.1 hj).1;simp;omega
theorem cutM_par {t:List Pl} (hc:checkN t=0) {i:Int} {k:Nat} (hk:k<t.length) (hu:underF t k i=false):getI (cutM t i (k+1)) (parN t k)=renum t i (parN t k):=by
 have hd:=good_dn hc;refine getI_eq cutM_val ?_;obtain⟨h0,h1⟩:=good_par hc;have hlt:=hd k hk;by_cases hp:parN t k<0
 ·have:parN t k= -1:=by
   cases k with
   | zero=>exact h0
   | succ k=>have:=h1 k hk;omega
  exact⟨(-1,-1),List.mem_cons_self ..,this.symm⟩
 ·refine⟨(parN t k,renum t i (parN t k)),List.mem_cons_of_mem _ (List.mem_map.2 ⟨(parN t k).toNat,List.mem_filter.2 ⟨List.mem_range.2 (by omega),?_⟩,?_⟩),rfl⟩
  ·rw[under_step hd hk]at hu;simp[hp]at hu;simp[hu.2]
  ·rw[Int.toNat_of_nonneg (by omega)]
theorem cutT_len {t:List Pl} {i:Int} {k:Nat} :(cutT t i k).length=(keptN t i k).length:=by simp[cutT]
theorem kept_le {t:List Pl} {i:Int} {k:Nat} :(keptN t i k).length≤k:=by
 have:=List.length_filter_le (fun j=> !underF t j i) (List.range k);simpa [keptN]using this
theorem cut14_ok (t:List Pl) (ht:OKs t) (i:Int):CallsOK Tryz.prog 68 [rowT Pl.cells t,iV i] (.tup [.row 0 (cutR t i).length,iV (cutCode t i)]) [(58,flat Pl.cells (cutR t i))]:=by
 refine callsOK mixed Tryz.call68 Tryz.func68 rfl (by rw[Tryz.ntmps68];simp) ?_ rfl;rw[Tryz.ntmps68];with_reducible refine aR fun K' hK=> ?_
 simp;refine hK _ _ _ ?_;clear K' hK;with_reducible refine aA ?_;refine aR fun K' hK=> ?_
 simp;refine acall_flat (check18_ok t ht) rfl (by simp) ?_;simp;refine hK _ _ _ ?_;clear K' hK;by_cases c0:checkN t=0
 ·with_reducible refine aA ?_;refine aR fun K' hK=> ?_
  simp[c0];refine hK _ _ _ ?_;clear K' hK;with_reducible refine aYk (by simp[c0]) ?_
  have hd:=good_dn c0;have hl:=(check_good c0).1;by_cases c1:i<1
  ·with_reducible refine aA ?_;refine aR fun K' hK=> ?_
   simp[c1];refine hK _ _ _ ?_;clear K' hK;with_reducible refine aX (by simp) ?_;refine aA ?_;refine aR fun K' hK=> ?_
   simp;refine hK _ _ _ ?_;clear K' hK;with_reducible refine aw_ret ?_
   simp[blockK,loopK,Post,resA,res1,expT,expA,exp1,expM,expL,okT,okA,ok1,rowOf,Tryz.f68];have e1:cutCode t i=151:=(by simp[cutCode,c0];omega);have e2:cutR t i=[]:=(by rw[cutR,e1];rfl);rw[e1,e2];exact⟨[1],⟨⟨rfl,rfl⟩,rfl⟩,rfl⟩
  ·by_cases c2:(t.length:Int)≤i
   ·with_reducible refine aA ?_;refine aR fun K' hK=> ?_
    simp[c1,c2];refine hK _ _ _ ?_;clear K' hK;with_reducible refine aX (by simp) ?_;refine aA ?_;refine aR fun K' hK=> ?_
    simp;refine hK _ _ _ ?_;clear K' hK;with_reducible refine aw_ret ?_
    simp[blockK,loopK,Post,resA,res1,expT,expA,exp1,expM,expL,okT,okA,ok1,rowOf,Tryz.f68];have e1:cutCode t i=151:=(by simp[cutCode,c0];omega);have e2:cutR t i=[]:=(by rw[cutR,e1];rfl);rw[e1,e2];exact⟨[1],⟨⟨rfl,rfl⟩,rfl⟩,rfl⟩
   ·with_reducible refine aA ?_;refine aR fun K' hK=> ?_
    simp[c1,c2];refine hK _ _ _ ?_;clear K' hK;with_reducible refine aYk (by simp) ?_;refine aR fun K' hK=> ?_
    simp;refine hK _ _ _ ?_;clear K' hK;have up0:=updateI (G:=((Hp.upd (fun _=>none) 0 (.row 58 [])).upd 1 (.row 58 [])).upd 2 (.map [])) (id:=2) (M:=[]) rfl (k:= -1) (by simp) (-1);with_reducible refine aR fun K' hK=> ?_
    simp[up0];refine hK _ _ _ ?_;clear K' hK;with_reducible refine aA ?_;refine aR fun K' hK=> ?_
    simp;refine hK _ _ _ ?_;clear K' hK;with_reducible refine aw_block ?_
    refine aw_loop (fun s G nx=>s 0=rowT Pl.cells t∧s 1=iV i∧s 8=.mp 2∧s 26=rowT Pl.cells t∧s 27=iV t.length∧3≤nx∧∃k r:Nat,s 28=iV k∧k≤t.length∧G 2=some (.map (entI (cutM t i k)))∧s 7=.row r (cutT t i k).length∧G r=some (.row 58 (flat Pl.cells (cutT t i k)))∧¬r=2∧r<nx) (fun s _ _=>match s 28 with | .v (.int _ n)=>t.length-n.toNat | _=>0) ?_ ?_
    ·refine⟨by simp,by simp,by simp,by simp,by simp,by omega,0,1,by simp,by omega,?_,by simp[cutT,keptN],?_,by omega,by omega⟩
     ·simp[cutM,keptN]
     ·simp[cutT,keptN]
    ·rintro s G nx-⟨s0,s1,s8,s26,s27,hnx,k,r,s28,hk,g2,s7,gr,hr2,hrn⟩;have hw:IntKind.i64.wrap (↑k+1)=((k+1:Nat):Int):=wrapS (by omega);with_reducible refine aR fun K' hK=> ?_
     simp[s27,s28];refine hK _ _ _ ?_;clear K' hK;with_reducible refine aC fun A B hA hB=> ?_
     simp;refine⟨fun hi2=>hA ?_,fun hi2=>hB ?_⟩<;>clear hA hB A B<;>(try simp at hi2)<;>(try with_reducible refine aK ?_)
     ·skip;with_reducible refine aw_block ?_;refine aR fun K' hK=> ?_
      simp[s26,s28,hi2];refine hK _ _ _ ?_;clear K' hK;generalize hp:nth t k=p;have n2:¬2=nx:=(by omega);have nr:¬r=nx:=(by omega);have hu:=under40_ok t hd (by omega) k hi2 i;with_reducible refine aR fun K' hK=> ?_
      simp[s0,s1,s28];refine acall_flat hu rfl (by simp) ?_;simp;refine hK _ _ _ ?_;clear K' hK;cases hun:underF t k i with
      | true=>
       with_reducible refine aVk (by simp) ?_;refine aw_skipL ?_
       refine blockK_normal ?_;with_reducible refine aS fun K' hK=> ?_
       simp[s28,hw];refine hK _ _ _ ?_;clear K' hK;refine aw_skipL (loopK_normal ?_ ?_)
       ·have e1:keptN t i (k+1)=keptN t i k:=(by rw[kept_succ,hun];simp);have e2:cutT t i (k+1)=cutT t i k:=(by rw[cutT,e1];rfl);have e3:cutM t i (k+1)=cutM t i k:=(by rw[cutM,e1];rfl);refine⟨by simp[s0],by simp[s1],by simp[s8],by simp[s26],by simp[s27],by omega,k+1,r,by simp[hw],by omega,?_,?_,?_,hr2,by omega⟩
        ·rw[e3];simp[n2,g2]
        ·rw[e2];simp[s7]
        ·rw[e2];simp[nr,gr]
       ·simp[s28,hw];omega
      | false=>
       with_reducible refine aU (by simp) ?_
       refine aw_gen (fun u H ny=>u 0=rowT Pl.cells t∧u 1=iV i∧u 8=.mp 2∧u 26=rowT Pl.cells t∧u 27=iV t.length∧u 28=iV k∧u 9=iV k∧u 10=.ptr nx 0∧u 7=.row r (cutT t i k).length∧ny=nx+1∧H 2=some (.map (entI (cutM t i k)))∧H r=some (.row 58 (flat Pl.cells (cutT t i k)))∧H nx=some (.var 58 p.cells)) ?_ ?_
       ·refine⟨by simp[s0],by simp[s1],by simp[s8],by simp[s26],by simp[s27],by simp[s28],by simp,by simp,by simp[s7],rfl,by simp[n2,g2],by simp[nr,gr],by simp⟩
       rintro u H ny ⟨u0,u1,u8,u26,u27,u28,u9,u10,u7,rfl,h2,hr,hx⟩;have hpp:p.par=parN t k:=(by rw[←hp];rfl);have hL:=cutT_len (t:=t) (i:=i) (k:=k);have hle:=kept_le (t:=t) (i:=i) (k:=k);have hk1:keptN t i (k+1)=keptN t i k++[k]:=(by rw[kept_succ,hun];rfl);have hren:renum t i k=(cutT t i k).length:=by
        have:¬(k:Int)<0:=(by omega);rw[renum,if_neg this,Int.toNat_natCast,hL]
       have hM1:cutM t i k++[((k:Int),((cutT t i k).length:Int))]=cutM t i (k+1):=by
        rw[cutM,cutM,hk1,List.map_append,←hren];rfl
       have hcell:iV (renum t i (parN t k))::p.cells.tail=(cutP t i k).cells:=(by rw[←hp];rfl);have up:=updateI (n:=((cutT t i k).length:Int)) h2 cutM_new;rw[hM1]at up;have nr2:¬2=r:=fun h=>hr2 h.symm;have nx2:¬nx=2:=(by omega);have nr1:¬r=nx+1:=(by omega);have nxr:¬nx=r:=(by omega);with_reducible refine aA ?_;refine aR fun K' hK=> ?_
       simp[u7,u8,u9,hr,up];refine hK _ _ _ ?_;clear K' hK;have lk:=lookupI (G:=H.upd 2 (.map (entI (cutM t i (k+1))))) (id:=2) (M:=cutM t i (k+1)) (by simp) (parN t k);rw[cutM_par c0 hi2 hun]at lk;with_reducible refine aA ?_;refine aR fun K' hK=> ?_
       simp[u8,u10,hx,nx2,hpp,lk,hcell];refine hK _ _ _ ?_;clear K' hK;have b1:(cutT t i k).length+1≤9223372036854775807:=(by omega);have b2:((cutT t i k).length+1)*64≤140737488355328:=(by omega);with_reducible refine aR fun K' hK=> ?_
       simp[u7,u10,hx,nx2,n2,hr,nr,nxr,nr1,hr2,nr2,b1,b2,treeOf_row,srcOf_row];refine hK _ _ _ ?_;clear K' hK;have hT:cutT t i (k+1)=cutT t i k++[cutP t i k]:=(by rw[cutT,cutT,hk1,List.map_append];rfl);with_reducible refine aw_skipL ?_
       refine blockK_normal ?_;with_reducible refine aS fun K' hK=> ?_
       simp[u28,hw];refine hK _ _ _ ?_;clear K' hK;refine aw_skipL (loopK_normal ?_ ?_)
       ·refine⟨by simp[u0],by simp[u1],by simp[u8],by simp[u26],by simp[u27],by omega,k+1,nx+1+1,by simp[hw],by omega,?_,?_,?_,by omega,by omega⟩
        ·have q1:¬2=nx+1+1:=(by omega);have q2:¬2=nx+1:=(by omega);rw[Hp.upd_ne _ _ q1,Hp.upd_ne _ _ nr2,Hp.upd_ne _ _ q2,Hp.upd_ne _ _ n2,Hp.upd_self]
        ·rw[hT];simp
        ·rw[hT,Hp.upd_self,←flat_snoc]
       ·simp[s28,hw];omega
     ·skip;with_reducible refine aw_exit ?_
      refine loopK_exit (blockK_exit ?_);have:k=t.length:=(by omega);subst this;with_reducible refine aR fun K' hK=> ?_
      simp[s7];refine hK _ _ _ ?_;clear K' hK;with_reducible refine aw_retL ?_
      simp[blockK,loopK,Post,resA,res1,expT,expA,exp1,expM,expL,okT,okA,ok1,rowOf,Tryz.f68,gr];have e1:cutCode t i=0:=by
       have h1:1≤i∧i<t.length:=(by omega);simp[cutCode,c0,h1]
      have e2:cutR t i=cutT t i t.length:=(by rw[cutR,e1];rfl);rw[e1,e2];exact⟨[r],⟨⟨rfl,rfl⟩,rfl⟩,by simp[rowOf,gr]⟩
 ·with_reducible refine aA ?_;refine aR fun K' hK=> ?_
  simp[c0];refine hK _ _ _ ?_;clear K' hK;with_reducible refine aX (by simp[c0]) ?_;refine aA ?_;refine aR fun K' hK=> ?_
  simp;refine hK _ _ _ ?_;clear K' hK;with_reducible refine aw_ret ?_
  simp[blockK,loopK,Post,resA,res1,expT,expA,exp1,expM,expL,okT,okA,ok1,rowOf,Tryz.f68];have e1:cutCode t i=checkN t:=(by simp[cutCode,c0]);have e2:cutR t i=[]:=(by rw[cutR,e1,if_neg c0]);rw[e1,e2];exact⟨[1],⟨⟨rfl,rfl⟩,rfl⟩,rfl⟩
set_option maxRecDepth 100000
set_option maxHeartbeats 4000000
theorem same16_ok (a b:List Pl) (ha:a.length≤1000000000):CallsOK Tryz.prog 32 [rowT Pl.cells a,rowT Pl.cells b] (bV (decide (a=b))) []:=by
 refine callsOK mixed Tryz.call32 Tryz.func32 rfl (by rw[Tryz.ntmps32];simp) ?_ rfl;rw[Tryz.ntmps32];with_reducible refine aR fun K' hK=> ?_
 simp;refine hK _ _ _ ?_;clear K' hK;with_reducible refine aA ?_;refine aR fun K' hK=> ?_
 simp;refine hK _ _ _ ?_;clear K' hK;with_reducible refine aC fun A B hA hB=> ?_
 simp;refine⟨fun hl=>hA ?_,fun hl=>hB ?_⟩<;>clear hA hB A B<;>(try simp at hl)<;>(try with_reducible refine aK ?_)
 ·with_reducible refine aA ?_;refine aR fun K' hK=> ?_
  simp;refine hK _ _ _ ?_;clear K' hK;with_reducible refine aw_ret ?_
  simp[blockK,loopK,Post,resA,res1,expT,expA,exp1,expM,expL,okT,okA,ok1,rowOf,Tryz.f32];intro e;exact hl (by rw[e])
 ·with_reducible refine aA ?_;refine aR fun K' hK=> ?_
  simp;refine hK _ _ _ ?_;clear K' hK;with_reducible refine aw_block ?_
  refine aw_loop (fun s G nx=>s 0=rowT Pl.cells a∧s 1=rowT Pl.cells b∧∃i:Nat,s 5=iV i∧i≤a.length∧a.take i=b.take i) (fun s _ _=>match s 5 with | .v (.int _ n)=>a.length-n.toNat | _=>0) ?_ ?_
  ·exact⟨by simp,by simp,0,by simp,by omega,by simp⟩
  ·rintro s G nx-⟨s0,s1,i,s5,hi,ht⟩;have hw:IntKind.i64.wrap (↑i+1)=((i+1:Nat):Int):=wrapS (by omega);with_reducible refine aA ?_;refine aR fun K' hK=> ?_
   simp[s0,s5];refine hK _ _ _ ?_;clear K' hK;with_reducible refine aC fun A B hA hB=> ?_
   simp;refine⟨fun hi2=>hA ?_,fun hi2=>hB ?_⟩<;>clear hA hB A B<;>(try simp at hi2)<;>(try with_reducible refine aK ?_)
   ·have hi3:i<b.length:=(by omega);with_reducible refine aw_block ?_;refine aQ fun K' hK=> ?_
    simp(maxSteps:=1000000) [s0,s1,s5,hi2,hi3];refine hK _ _ _ ?_;clear K' hK;by_cases h1:nth a i=nth b i
    ·skip;with_reducible refine aVk (by simp[h1]) ?_;refine aw_skipL ?_
     refine blockK_normal ?_;with_reducible refine aS fun K' hK=> ?_
     simp[s5,hw];refine hK _ _ _ ?_;clear K' hK;refine aw_skipL (loopK_normal ?_ ?_)
     ·exact⟨by simp[s0],by simp[s1],i+1,by simp[hw],by omega,take_nth hi2 hi3 ht h1⟩
     ·simp[s5,hw];omega
    ·skip;with_reducible refine aU (by simp[h1]) ?_;refine aA ?_;refine aR fun K' hK=> ?_
     simp;refine hK _ _ _ ?_;clear K' hK;with_reducible refine aw_ret ?_
     simp[blockK,loopK,Post,resA,res1,expT,expA,exp1,expM,expL,okT,okA,ok1,rowOf,Tryz.f32];exact ne_nth h1
   ·skip;with_reducible refine aw_exit ?_
    refine loopK_exit (blockK_exit ?_);with_reducible refine aR fun K' hK=> ?_
    simp;refine hK _ _ _ ?_;clear K' hK;with_reducible refine aw_retL ?_
    simp[blockK,loopK,Post,resA,res1,expT,expA,exp1,expM,expL,okT,okA,ok1,rowOf,Tryz.f32];exact eq_of_take (by omega) (by omega) ht
def bigV (v:Ver):Bool:=decide (300<v.pre.size)
theorem big31_ok (v:Ver):CallsOK Tryz.prog 74 [.agg v.cells] (bV (bigV v)) []:=by
 refine callsOK mixed Tryz.call74 Tryz.func74 rfl (by rw[Tryz.ntmps74];simp) ?_ rfl;rw[Tryz.ntmps74];with_reducible refine aR fun K' hK=> ?_
 simp;refine hK _ _ _ ?_;clear K' hK;with_reducible refine aR fun K' hK=> ?_
 simp;refine hK _ _ _ ?_;clear K' hK;with_reducible refine aw_retL ?_
 simp[blockK,loopK,Post,resA,res1,expT,expA,exp1,expM,expL,okT,okA,ok1,rowOf,Tryz.f74];simp[bigV];omega
def bigP (p:Pl):Bool:=decide (300<p.name.size) || bigV p.ver
def bigT (t:List Pl):Bool:=decide ((40<t.length∧t.length≤200)∨210<t.length) || t.any bigP
theorem big30_ok (t:List Pl) (hl:t.length≤9223372036854775807):CallsOK Tryz.prog 54 [rowT Pl.cells t] (bV (bigT t)) []:=by
 refine callsOK mixed Tryz.call54 Tryz.func54 rfl (by rw[Tryz.ntmps54];simp) ?_ rfl;rw[Tryz.ntmps54];with_reducible refine aR fun K' hK=> ?_
 simp;refine hK _ _ _ ?_;clear K' hK;with_reducible refine aA ?_
 refine aw_cut (fun s G nx=>s 0=rowT Pl.cells t∧s 16=bV (decide ((40<t.length∧t.length≤200)∨210<t.length))) ?_ ?_
 ·by_cases a1:(40:Int)<t.length
  ·by_cases a2:(t.length:Int)≤200
   ·skip;with_reducible refine aS fun K' hK=> ?_
    simp[a1,a2];refine hK _ _ _ ?_;clear K' hK;with_reducible refine aw_end ?_
    simp;omega
   ·skip;with_reducible refine aS fun K' hK=> ?_
    simp[a1,a2];refine hK _ _ _ ?_;clear K' hK;with_reducible refine aw_end ?_
    refine⟨by simp,?_⟩;simp;rw[Bool.eq_iff_iff];simp;omega
  ·skip;with_reducible refine aS fun K' hK=> ?_
   simp[a1];refine hK _ _ _ ?_;clear K' hK;with_reducible refine aw_end ?_
   refine⟨by simp,?_⟩;simp;rw[Bool.eq_iff_iff];simp;omega
 ·rintro s G nx ⟨s0,s16⟩;by_cases hbig:(40<t.length∧t.length≤200)∨210<t.length
  ·rw[decide_eq_true hbig]at s16;with_reducible refine aX (by simp[s16]) ?_;refine aA ?_;refine aR fun K' hK=> ?_
   simp;refine hK _ _ _ ?_;clear K' hK;with_reducible refine aw_ret ?_
   simp[blockK,loopK,Post,resA,res1,expT,expA,exp1,expM,expL,okT,okA,ok1,rowOf,Tryz.f54];rw[bigT,decide_eq_true hbig];rfl
  rw[decide_eq_false hbig]at s16;have hs:=decide_eq_false hbig;with_reducible refine aYk (by simp[s16]) ?_;refine aA ?_;refine aR fun K' hK=> ?_
  simp;refine hK _ _ _ ?_;clear K' hK;with_reducible refine aw_block ?_
  refine aw_loop (fun s G nx=>s 0=rowT Pl.cells t∧∃i:Nat,s 3=iV i∧i≤t.length∧(t.take i).any bigP=false) (fun s _ _=>match s 3 with | .v (.int _ n)=>t.length-n.toNat | _=>0) ?_ ?_
  ·exact⟨by simp[s0],0,by simp,by omega,by simp⟩
  ·rintro s G nx-⟨s0,i,s3,hi,ht⟩;have hw:IntKind.i64.wrap (↑i+1)=((i+1:Nat):Int):=wrapS (by omega);with_reducible refine aA ?_;refine aR fun K' hK=> ?_
   simp[s0,s3];refine hK _ _ _ ?_;clear K' hK;with_reducible refine aC fun A B hA hB=> ?_
   simp;refine⟨fun hi2=>hA ?_,fun hi2=>hB ?_⟩<;>clear hA hB A B<;>(try simp at hi2)<;>(try with_reducible refine aK ?_)
   ·skip;with_reducible refine aw_block ?_
    have hst:=any_take1 (p:=bigP) hi2;generalize hp:nth t i=p at hst;by_cases h1:(300:Int)<p.name.size
    ·skip;with_reducible refine aR fun K' hK=> ?_
     simp[s0,s3,hi2,hp,h1];refine hK _ _ _ ?_;clear K' hK;with_reducible refine aU (by simp) ?_;refine aA ?_;refine aR fun K' hK=> ?_
     simp;refine hK _ _ _ ?_;clear K' hK;with_reducible refine aw_ret ?_
     simp[blockK,loopK,Post,resA,res1,expT,expA,exp1,expM,expL,okT,okA,ok1,rowOf,Tryz.f54];have:bigP p=true:=(by simp[bigP];omega);rw[bigT,show t.any bigP=true from List.any_eq_true.2 ⟨p,hp▸nth_mem hi2,this⟩];simp
    ·skip;with_reducible refine aR fun K' hK=> ?_
     simp[s0,s3,hi2,hp,h1];refine acall_flat (big31_ok p.ver) rfl (by simp) ?_;simp;refine hK _ _ _ ?_;clear K' hK;cases h2:bigV p.ver with
     | true=>
      with_reducible refine aU (by simp) ?_;refine aA ?_;refine aR fun K' hK=> ?_
      simp;refine hK _ _ _ ?_;clear K' hK;with_reducible refine aw_ret ?_
      simp[blockK,loopK,Post,resA,res1,expT,expA,exp1,expM,expL,okT,okA,ok1,rowOf,Tryz.f54];have:bigP p=true:=(by simp[bigP,h2]);rw[bigT,show t.any bigP=true from List.any_eq_true.2 ⟨p,hp▸nth_mem hi2,this⟩];simp
     | false=>
      with_reducible refine aVk (by simp) ?_;refine aw_skipL ?_
      refine blockK_normal ?_;with_reducible refine aS fun K' hK=> ?_
      simp[s3,hw];refine hK _ _ _ ?_;clear K' hK;refine aw_skipL (loopK_normal ?_ ?_)
      ·exact⟨by simp[s0],i+1,by simp[hw],by omega,by rw[hst,ht];simp[bigP,h2];omega⟩
      ·simp[s3,hw];omega
   ·skip;with_reducible refine aw_exit ?_
    refine loopK_exit (blockK_exit ?_);with_reducible refine aR fun K' hK=> ?_
    simp;refine hK _ _ _ ?_;clear K' hK;with_reducible refine aw_retL ?_
    simp[blockK,loopK,Post,resA,res1,expT,expA,exp1,expM,expL,okT,okA,ok1,rowOf,Tryz.f54];rw[List.take_of_length_le (by omega)]at ht;rw[bigT,hs,ht];rfl
def largeF (t:List Pl) (name:Bs) (v:Ver):Bool:=bigT t || (decide (1000<name.size) || bigV v)
set_option maxRecDepth 100000
set_option maxHeartbeats 400000
def sC (b:Bs):List AV:=[sV b]
instance:Wid sC 1:=⟨fun _=>rfl,by decide⟩
@[simp] theorem sC_get (b:Bs):getC (sC b) 0 1=some [sV b]:=rfl
theorem flat_sC (l:List Bs):flat sC l=l.map fun b=>sV b:=by
 induction l with
 | nil=>rfl
 | cons a l ih=>rw[List.map_cons,←ih];rfl
theorem join72 (xs:List Bs) (sep:Bs) (hN:xs.length≤140737488355328) (hlen:(Lib.join (xs.map bsL) (bsL sep)).length≤140737488355328):CallsOK Tryz.prog 203 [rowT sC xs,sV sep] (sV (ofL (Lib.join (xs.map bsL) (bsL sep)))) []:=by
 refine⟨rfl,Tryz.call203,fun w us F hF hΓ hx=> ?_⟩;obtain⟨u,us,rfl,h1,hx⟩:=hx.uncons;obtain⟨u2,us,rfl,h2,hx⟩:=hx.uncons;have:us=[]:=List.eq_nil_of_length_eq_zero (by simpa using hx.1);subst this;obtain⟨rfl,_⟩:=h2.v_inv;have fin:∀ {s:Bs},s=ofL (Lib.join (xs.map bsL) (bsL sep))→(Calls Tryz.prog 203 #[u,.string sep] w fun e w'=>e=.returned (.string s)∧Below w.heap.size w w')→Calls Tryz.prog 203 #[u,.string sep] w fun e w'=>∃v E',e=.returned v∧VR Tryz.prog E' w' (sV (ofL (Lib.join (xs.map bsL) (bsL sep)))) v∧Rel Tryz.prog E' w' (ofJ [])∧E'.F=F∧Below w.heap.size w w'∧∀i b,E'.φ i=some b→w.heap.size≤b:=by
  rintro s rfl h;refine h.mono ?_;rintro e w' ⟨rfl,hb⟩;have hext:Ext (fun _=>False) w w':=Ext.of_below _ hb;exact⟨_,En.zero F,rfl,.tree (.v rfl),rel_zero (fun b h=>Nat.lt_of_lt_of_le (hF b h) hb.size) (fun w'' h'=>hΓ w'' (hext.toC.trans h' fun _ _ h=>h)),rfl,hb,fun i b h=>(by cases h)⟩
 have ht:=h1.sl_inv;have hfl:=flat_sC xs;cases xs with
 | nil=>
  cases ht with
  | nil A hn=>exact fin rfl ((Tryz.strings_Join_none _ _ sep w).mono fun e w' ⟨h1,h2⟩=>⟨h1,by rw[h2];exact Below.refl _ _⟩)
  | sl hn h0=>simp at h0
 | cons x xs=>
  cases ht with
  | @sl _ _ ad cap us hn h0 hb hl hc hr=>
   have hn0:(flat sC (x::xs)).length=(x::xs).length:=(by rw[hfl];simp);have hsp:ad=⟨ad.block,ad.off,none⟩:=by
    obtain⟨u0,hu0⟩:∃u0,us[0]? =some u0:=⟨_,List.getElem?_eq_getElem (by omega)⟩;have h3:=hc 0 u0 hu0;have e0:ad.add 0=ad:=(by simp[Addr.add]);rw[e0]at h3;unfold World.cell? at h3;split at h3
    ·obtain⟨b,o,sp⟩:=ad;cases sp with
     | none=>rfl
     | some _=>simp at h3
    ·cases h3
   have hcells:∀(j:Nat) y,(x::xs)[j]? =some y→w.cell? ⟨ad.block,ad.off+j,none⟩=some (.string y):=by
    intro j y hy;have hj:j<(x::xs).length:=(List.getElem?_eq_some_iff.1 hy).1;obtain⟨uj,huj⟩:∃uj,us[j]? =some uj:=⟨_,List.getElem?_eq_getElem (by omega)⟩;have h3:=hr j (sV y) uj (by rw[hfl,List.getElem?_map,hy];rfl) huj;have h4:uj=.string y:=(by cases h3;rfl);have h5:=hc j uj huj;rw[hsp,add_lit,h4]at h5;exact h5
   have hbk:ad.block<w.heap.size:=World.block_lt_of_cell? w ⟨ad.block,ad.off+0,none⟩ (hcells 0 x rfl);have hn':(x::xs).length≤cap:=hn;have ebs:(fun b:Bs=>b.data.toList)=bsL:=rfl;have hj:=Tryz.strings_Join ad.block ad.off cap (x::xs) sep w hcells hbk hN hn';rw[ebs]at hj;have hj:=hj hlen;rw[←hsp]at hj;exact fin rfl hj
set_option maxRecDepth 100000
set_option maxHeartbeats 1000000
@[simp] theorem elI67:elI Tryz.prog 106=some (9,1,16,[.string ⟨#[]⟩]):=by kernel_rfl
set_option maxRecDepth 100000
set_option maxHeartbeats 1000000
def nmB:Bs:=⟨#[110,111,100,101,95,109,111,100,117,108,101,115,47]⟩
def preB (b:Bs):Bs:=nmB++b
def pathCode (l:List Bs):Int:=if 12<l.length then 30 else if l.all (fun b=>goodF (bsL b))then 0 else 30
def pathS (l:List Bs):Bs:=if pathCode l=0 then ofL (Lib.join (l.map fun b=>bsL (preB b)) [47])else⟨#[]⟩
theorem join_len (sep:List UInt8) (n:Nat):∀(xs:List (List UInt8)),(∀x∈xs,x.length≤n)→(Lib.join xs sep).length≤xs.length*(n+sep.length)
 | [],_=>by simp[Lib.join,List.intercalate]
 | [x],h=>by
  have:=h x (by simp);simp[Lib.join,List.intercalate];omega
 | x::y::xs,h=>by
  have h1:=h x (by simp);have ih:=join_len sep n (y::xs) (fun z hz=>h z (List.mem_cons_of_mem _ hz));have e:Lib.join (x::y::xs) sep=x++(sep++Lib.join (y::xs) sep):=by
   simp[Lib.join,List.intercalate]
  rw[e,List.length_append,List.length_append,List.length_cons,Nat.add_mul];omega
set_option maxRecDepth 100000
set_option maxHeartbeats 1000000
def namesU (t:List Pl) (l:List Nat):List Bs:=(l.filter fun j=>decide (0<j)).map fun j=>(nth t j).name
def pathL (t:List Pl) (i:Nat):List Bs:=(namesU t (upN t i)).reverse
def AccAt (G:Hp) (nx:Nat) (x:AV) (acc:List Bs):Prop:=(x=.v (.slice none 0 0)∧acc=[])∨∃r,x=.row r acc.length∧G r=some (.row 9 (flat sC acc))∧5≤r∧r<nx
def pathOf (t:List Pl) (i:Int):Bs:=if holdsF t i then pathS (pathL t i.toNat)else⟨#[]⟩
set_option maxRecDepth 100000
set_option maxHeartbeats 1000000
def nmL:List UInt8:=[110,111,100,101,95,109,111,100,117,108,101,115,47]
def partS (l:List UInt8):Bs×List UInt8×Bool:=
 let c:=Lib.cut (Lib.trimPrefix l nmL) [47]
 let c2:=Lib.cut c.2.1 [47]
 let b:=Lib.hasPrefix c.1 [64]&&c.2.2
 (if Lib.hasPrefix l nmL=false then⟨#[]⟩else if b then ofL c.1++(⟨#[47]⟩++ofL c2.1)else ofL c.1,if b then c2.2 else c.2)
def splitGo:Nat→List UInt8→Option (List Bs)
 | 0,_=>none
 | k+1,l=>if goodF (bsL (partS l).1)then(if(partS l).2.2 then(splitGo k (partS l).2.1).map ((partS l).1:: ·)else some [(partS l).1])else none
def splitF (s:Bs):Option (List Bs):=if s=⟨#[]⟩then some []else splitGo 12 (bsL s)
def splitR (s:Bs):AV×Js:=match splitF s with
 | none=>(.tup [.v (.slice none 0 0),bV false],[])
 | some []=>(.tup [.v (.slice none 0 0),bV true],[])
 | some (a::l)=>(.tup [.row 0 (a::l).length,bV true],[(9,flat sC (a::l))])
set_option maxRecDepth 100000
set_option maxHeartbeats 1000000
def findGo (t:List Pl):Int→List Bs→Option Int
 | c,[]=>some c
 | c,b::r=>match chF t c b with
  | some k=>findGo t k r
  | none=>none
def findF (t:List Pl) (s:Bs):Option Int:=match splitF s with
 | none=>none
 | some l=>if checkN t=0 then findGo t 0 l else none
set_option maxRecDepth 100000
set_option maxHeartbeats 1000000
def belowK (t:List Pl) (i:Nat) (k:Nat):List Int:=((List.range k).filter fun j=>decide (i≤j)&&underF t j i).map fun(j:Nat)=>(j:Int)
def belowL (t:List Pl) (i:Int):List Int:=if holdsF t i then belowK t i.toNat t.length else[]
theorem belowK_succ {t:List Pl} {i k:Nat} (h:i≤k):belowK t i (k+1)=belowK t i k++if underF t k i=true then[(k:Int)]else[]:=by
 unfold belowK;rw[List.range_succ,List.filter_append,List.map_append];congr 1;cases hu:underF t k i<;>simp[hu,h]
theorem belowK_len {t:List Pl} {i k:Nat} :(belowK t i k).length≤k:=by
 have:=List.length_filter_le (fun j=>decide (i≤j)&&underF t j i) (List.range k);simpa [belowK]using this
theorem below28_ok (t:List Pl) (ht:OKs t) (i:Int):CallsOK Tryz.prog 69 [rowT Pl.cells t,iV i] (.row 0 (belowL t i).length) [(3,flat iC (belowL t i))]:=by
 refine callsOK mixed Tryz.call69 Tryz.func69 rfl (by rw[Tryz.ntmps69];simp) ?_ rfl;rw[Tryz.ntmps69];with_reducible refine aR fun K' hK=> ?_
 simp;refine hK _ _ _ ?_;clear K' hK;with_reducible refine aA ?_;refine aR fun K' hK=> ?_
 simp;refine acall_flat (holds43_ok t ht i) rfl (by simp) ?_;cases hh:holdsF t i with
 | false=>
  have e:belowL t i=[]:=(by rw[belowL,hh];rfl);simp;refine hK _ _ _ ?_;clear K' hK;with_reducible refine aX (by simp) ?_;refine aA ?_;refine aR fun K' hK=> ?_
  simp;refine hK _ _ _ ?_;clear K' hK;with_reducible refine aw_ret ?_
  simp[blockK,loopK,Post,resA,res1,expT,expA,exp1,expM,expL,okT,okA,ok1,rowOf,Tryz.f69];rw[e];exact⟨[1],⟨rfl,rfl⟩,rfl⟩
 | true=>
  obtain⟨hch,hi0,hi1⟩:=holdsF_inv hh;obtain⟨n,rfl⟩:∃n:Nat,i=n:=⟨i.toNat,by omega⟩;have hn:n<t.length:=(by omega);have hd:=good_dn hch;have hl:=ht.1;have e:belowL t n=belowK t n t.length:=(by rw[belowL,hh];simp);have hk0:belowK t n n=[]:=by
   unfold belowK;rw[show(List.range n).filter (fun j=>decide (n≤j)&&underF t j n)=[] from List.filter_eq_nil_iff.2 (fun j hj=>by have:=List.mem_range.1 hj;simp;omega)];rfl
  simp;refine hK _ _ _ ?_;clear K' hK;with_reducible refine aYk (by simp) ?_;refine aR fun K' hK=> ?_
  simp;refine hK _ _ _ ?_;clear K' hK;with_reducible refine aA ?_;refine aR fun K' hK=> ?_
  simp;refine hK _ _ _ ?_;clear K' hK;with_reducible refine aw_block ?_
  refine aw_loop (fun u G nx=>u 0=rowT Pl.cells t∧u 1=iV n∧∃k r:Nat,u 6=iV k∧n≤k∧k≤t.length∧u 5=.row r (belowK t n k).length∧G r=some (.row 3 (flat iC (belowK t n k)))∧r<nx) (fun u _ _=>match u 6 with | .v (.int _ n)=>t.length-n.toNat | _=>0) ?_ ?_
  ·exact⟨by simp,by simp,n,1,by simp,by omega,by omega,by simp[hk0],by simp[hk0],by omega⟩
  ·rintro u G nx-⟨u0,u1,k,r,u6,hnk,hk,u5,gr,hrn⟩;have hw:IntKind.i64.wrap (↑k+1)=((k+1:Nat):Int):=wrapS (by omega);have hbs:=belowK_succ (t:=t) hnk;have hlen:=belowK_len (t:=t) (i:=n) (k:=k);with_reducible refine aA ?_;refine aR fun K' hK=> ?_
   simp[u0,u6];refine hK _ _ _ ?_;clear K' hK;with_reducible refine aC fun A B hA hB=> ?_
   simp;refine⟨fun hi2=>hA ?_,fun hi2=>hB ?_⟩<;>clear hA hB A B<;>(try simp at hi2)<;>(try with_reducible refine aK ?_)
   ·skip;with_reducible refine aw_block ?_;refine aR fun K' hK=> ?_
    simp[u0,u1,u6];refine acall_flat (under40_ok t hd hl k hi2 n) rfl (by simp) ?_;simp;refine hK _ _ _ ?_;clear K' hK;cases hu:underF t k n with
    | true=>
     rw[hu]at hbs;have b1:(belowK t n k).length+1≤9223372036854775807:=(by omega);have b2:((belowK t n k).length+1)*8≤140737488355328:=(by omega);have n1:¬r=nx:=(by omega);with_reducible refine aU (by simp) ?_;refine aR fun K' hK=> ?_
     simp[u5,u6,gr,b1,b2,n1,treeOf_row,srcOf_row];refine hK _ _ _ ?_;clear K' hK;with_reducible refine aw_skipL ?_
     refine blockK_normal ?_;with_reducible refine aS fun K' hK=> ?_
     simp[u6,hw];refine hK _ _ _ ?_;clear K' hK;refine aw_skipL (loopK_normal ?_ ?_)
     ·refine⟨by simp[u0],by simp[u1],k+1,nx+1,by simp[hw],by omega,by omega,?_,?_,by omega⟩
      ·rw[hbs];simp
      ·rw[hbs,if_pos rfl,Hp.upd_self,←flat_app];rfl
     ·simp[u6,hw];omega
    | false=>
     rw[hu]at hbs;have hbs':belowK t n (k+1)=belowK t n k:=(by rw[hbs];simp);with_reducible refine aVk (by simp) ?_;refine aw_skipL ?_
     refine blockK_normal ?_;with_reducible refine aS fun K' hK=> ?_
     simp[u6,hw];refine hK _ _ _ ?_;clear K' hK;refine aw_skipL (loopK_normal ?_ ?_)
     ·exact⟨by simp[u0],by simp[u1],k+1,r,by simp[hw],by omega,by omega,by rw[hbs'];simp[u5],by rw[hbs'];exact gr,hrn⟩
     ·simp[u6,hw];omega
   ·skip;with_reducible refine aw_exit ?_
    refine loopK_exit (blockK_exit ?_);have:k=t.length:=(by omega);subst this;with_reducible refine aR fun K' hK=> ?_
    simp[u5];refine hK _ _ _ ?_;clear K' hK;with_reducible refine aw_retL ?_
    simp[blockK,loopK,Post,resA,res1,expT,expA,exp1,expM,expL,okT,okA,ok1,rowOf,Tryz.f69,gr];rw[e];exact⟨[r],⟨rfl,rfl⟩,by simp[rowOf,gr]⟩
set_option maxHeartbeats 400000
theorem nth_setG {α:Type} [Inhabited α] {l:List α} {i k:Nat} {a:α} (hi:i<l.length):nth (l.set i a) k=if k=i then a else nth l k:=by
 unfold nth;rw[List.getD_eq_getElem?_getD,List.getD_eq_getElem?_getD,List.getElem?_set];by_cases h:i=k
 ·subst h;simp[hi]
 ·have h':¬k=i:=fun e=>h e.symm;simp[h,h']
theorem nth_app_lt {α:Type} [Inhabited α] {l m:List α} {i:Nat} (h:i<l.length):nth (l++m) i=nth l i:=by
 rw[nth_eq (by simp;omega),nth_eq h,List.getElem_append_left h]
theorem nth_app_eq {α:Type} [Inhabited α] {l:List α} {a:α} {m:List α} :nth (l++a::m) l.length=a:=by
 rw[nth_eq (by simp),List.getElem_append_right (Nat.le_refl _)];simp
structure Good (t:List Pl):Prop where
 le:t.length≤200
 pos:0<t.length
 root:nth t 0=rootP
 par:∀j,1≤j→j<t.length→0≤parN t j∧parN t j<j
 right:∀j,1≤j→j<t.length→rightF (nth t j).name (nth t j).ver=true
 uniq:∀j k,1≤j→j<k→k<t.length→parN t j=parN t k→(nth t j).name=(nth t k).name→False
 high:∀j,1≤j→j<t.length→(upN t j).length≤13
theorem dn_of {t:List Pl} (h0:parN t 0= -1) (hp:∀j,1≤j→j<t.length→0≤parN t j∧parN t j<j):Dn t:=by
 intro i hi;rcases Nat.eq_zero_or_pos i with rfl | h
 ·rw[h0];omega
 ·exact(hp i h hi).2
theorem root_par {t:List Pl} (h:nth t 0=rootP):parN t 0= -1:=by rw[parN,h];rfl
theorem Good.dn {t:List Pl} (g:Good t):Dn t:=dn_of (root_par g.root) g.par
theorem up_zero {t:List Pl} (h0:parN t 0= -1):upN t 0=[0]:=by
 unfold upN;rw[upF,if_pos (by omega)]
theorem up_pos {t:List Pl} {i:Nat} :1≤(upN t i).length:=by
 unfold upN;rw[upF];simp
theorem dD_val {t:List Pl} (h0:parN t 0= -1) (hp:∀j,1≤j→j<t.length→0≤parN t j∧parN t j<j):∀i,i<t.length→∀j,j≤i→nth (dD t i) j+1=((upN t j).length:Int)
 | 0,hi,j,hj=>by
  have:j=0:=(by omega);subst this;rw[up_zero h0,dD,nth_eq (by simpa using hi)];simp
 | i+1,hi,j,hj=>by
  have ih:=dD_val h0 hp i (by omega);rw[dD,nth_setG (by rw[dD_len];exact hi),nth_tail hi];by_cases h:j=i+1
  ·subst h;obtain⟨h1,h2⟩:=hp (i+1) (by omega) hi;have hq:(nth t (i+1)).par=parN t (i+1):=rfl;rw[if_pos rfl,hq,ih _ (by omega),up_step (dn_of h0 hp) hi,if_neg (by omega)];simp
  ·rw[if_neg h];exact ih j (by omega)
theorem mem_keys {t:List Pl} {i:Nat} (h:i<t.length) {k:Key} :k∈keysTo t i↔∃j,1≤j∧j≤i∧keyP (nth t j)=k:=by
 unfold keysTo;rw[List.mem_map];constructor
 ·rintro⟨p,hp,rfl⟩;obtain⟨j,hj,rfl⟩:=List.mem_iff_getElem.1 hp;rw[List.length_take,List.length_tail]at hj;refine⟨j+1,by omega,by omega,?_⟩;rw[List.getElem_take,nth_eq (by omega)];simp
 ·rintro⟨j,h1,h2,rfl⟩;obtain⟨j,rfl⟩:∃m,j=m+1:=⟨j-1,by omega⟩;refine⟨nth t (j+1),List.mem_iff_getElem.2 ⟨j,by rw[List.length_take,List.length_tail];omega,?_⟩,rfl⟩;rw[List.getElem_take,nth_eq (by omega)];simp
theorem okAt_iff {t:List Pl} {i:Nat} (h:i+1<t.length):okAt t i=true↔(0≤parN t (i+1)∧parN t (i+1)≤i)∧rightF (nth t (i+1)).name (nth t (i+1)).ver=true∧
  (∀j,1≤j→j≤i→parN t j=parN t (i+1)→(nth t j).name=(nth t (i+1)).name→False)∧nth (dD t i) (parN t (i+1)).toNat+1≤12:=by
 have hk:keyP (nth t (i+1))∉keysTo t i↔(∀j,1≤j→j≤i→parN t j=parN t (i+1)→(nth t j).name=(nth t (i+1)).name→False):=by
  rw[mem_keys (by omega)];constructor
  ·intro h j h1 h2 h3 h4;refine h ⟨j,h1,h2,?_⟩;unfold keyP;rw[h4];exact congrArg (Key.mk · _) h3
  ·rintro h ⟨j,h1,h2,h3⟩;unfold keyP at h3;injection h3 with h3 h4;exact h j h1 h2 h3 h4
 simp only[okAt,Bool.and_eq_true,decide_eq_true_eq,nth_tail h,hk];exact⟨fun⟨a,b,c,d,e⟩=>⟨⟨a,b⟩,c,d,e⟩,fun⟨⟨a,b⟩,c,d,e⟩=>⟨a,b,c,d,e⟩⟩
theorem check_iff {t:List Pl} :checkN t=0↔Good t:=by
 constructor
 ·intro h;obtain⟨h1,h2,h3,h4⟩:=check_good h;have h0:=root_par h3;have hp:∀j,1≤j→j<t.length→0≤parN t j∧parN t j<j:=fun j hj hl=>by
   obtain⟨j,rfl⟩:∃m,j=m+1:=⟨j-1,by omega⟩;have:=((okAt_iff hl).1 (h4 j hl)).1;omega
  refine⟨h1,List.length_pos_iff.2 h2,h3,hp,fun j hj hl=> ?_,fun j k h1 h2 h3=> ?_,fun j hj hl=> ?_⟩
  ·obtain⟨j,rfl⟩:∃m,j=m+1:=⟨j-1,by omega⟩;exact((okAt_iff hl).1 (h4 j hl)).2.1
  ·obtain⟨k,rfl⟩:∃m,k=m+1:=⟨k-1,by omega⟩;exact((okAt_iff h3).1 (h4 k h3)).2.2.1 j h1 (by omega)
  ·obtain⟨j,rfl⟩:∃m,j=m+1:=⟨j-1,by omega⟩;have:=((okAt_iff hl).1 (h4 j hl)).2.2.2;have hq:=hp (j+1) hj hl;rw[dD_val h0 hp j (by omega) _ (by omega)]at this;rw[up_step (dn_of h0 hp) hl,if_neg (by omega)];simp;omega
 ·intro g;have h0:=root_par g.root;unfold checkN;rw[if_neg (by have:=g.le;omega),if_neg (by simp[g.root,List.ne_nil_of_length_pos g.pos]),if_pos];unfold treeOk;rw[List.all_eq_true];intro j hj;have hl:j+1<t.length:=by
   have:=List.mem_range.1 hj;rw[List.length_tail]at this;omega
  have hq:=g.par (j+1) (by omega) hl;refine(okAt_iff hl).2 ⟨by omega,g.right _ (by omega) hl,fun k h1 h2=>g.uniq k (j+1) h1 (by omega) hl,?_⟩;rw[dD_val h0 g.par j (by omega) _ (by omega)];have:=g.high (j+1) (by omega) hl;rw[up_step g.dn hl,if_neg (by omega)]at this;simp at this;omega
theorem holds_iff {t:List Pl} {i:Int} :holdsF t i=true↔Good t∧0≤i∧i<t.length:=by
 simp[holdsF,check_iff]
theorem chF_some {t:List Pl} {p:Int} {b:Bs} {k:Nat} (h:chF t p b=some k):k<t.length∧parN t k=p∧(nth t k).name=b:=by
 unfold chF at h;rw[List.findIdx?_eq_some_iff_getElem]at h;obtain⟨h1,h2,_⟩:=h;rw[←nth_eq h1]at h2;have:=of_decide_eq_true h2;exact⟨h1,this⟩
theorem chF_none {t:List Pl} {p:Int} {b:Bs} :chF t p b=none↔∀k,k<t.length→parN t k=p→(nth t k).name=b→False:=by
 unfold chF;rw[List.findIdx?_eq_none_iff];constructor
 ·intro h k hk h1 h2;have:=h _ (nth_mem hk);simp only[chP,decide_eq_false_iff_not]at this;exact this ⟨h1,h2⟩
 ·intro h p hp;obtain⟨k,hk,rfl⟩:=List.mem_iff_getElem.1 hp;rw[←nth_eq hk];simp only[chP,decide_eq_false_iff_not];exact fun⟨h1,h2⟩=>h k hk h1 h2
theorem Good.child {t:List Pl} (g:Good t) {p:Int} (hp:0≤p) {b:Bs} {k:Nat} (hk:k<t.length) (h1:parN t k=p) (h2:(nth t k).name=b):chF t p b=some k:=by
 cases h:chF t p b with
 | none=>exact(chF_none.1 h k hk h1 h2).elim
 | some j=>
  obtain⟨a1,a2,a3⟩:=chF_some h;have h0:=root_par g.root;have hj:1≤j:=by
   rcases Nat.eq_zero_or_pos j with rfl | h
   ·omega
   ·exact h
  have hk1:1≤k:=by
   rcases Nat.eq_zero_or_pos k with rfl | h
   ·omega
   ·exact h
  rcases Nat.lt_trichotomy j k with hl | rfl | hl
  ·exact(g.uniq j k hj hl hk (by rw[a2,h1]) (by rw[a3,h2])).elim
  ·rfl
  ·exact(g.uniq k j hk1 hl a1 (by rw[a2,h1]) (by rw[a3,h2])).elim
section
variable {t:List Pl} {i:Int} {b:Bs} {v:Ver}
theorem res_at {i:Nat} (hh:Good t) (hi:i<t.length) {k:Nat} (hc:chF t i b=some k):resolveN t i b=k:=by
 have h:holdsF t i=true:=holds_iff.2 ⟨hh,by omega,by omega⟩;rw[resolveN,h,if_pos rfl,Int.toNat_natCast,up_step hh.dn hi,resL,hc]
theorem res_up {i:Nat} (hh:Good t) (hi:i<t.length) (hc:chF t i b=none) (hp:0≤parN t i):resolveN t i b=resolveN t (parN t i) b:=by
 have h:holdsF t i=true:=holds_iff.2 ⟨hh,by omega,by omega⟩;have:=hh.dn i hi;have h2:holdsF t (parN t i)=true:=holds_iff.2 ⟨hh,by omega,by omega⟩;rw[resolveN,h,if_pos rfl,Int.toNat_natCast,up_step hh.dn hi,resL,hc,if_neg (by omega)];rw[resolveN,h2,if_pos rfl]
theorem res_root (hh:Good t) {i:Nat} (hi:i<t.length) (hc:chF t i b=none) (hp:parN t i<0):resolveN t i b= -1:=by
 have h:holdsF t i=true:=holds_iff.2 ⟨hh,by omega,by omega⟩;rw[resolveN,h,if_pos rfl,Int.toNat_natCast,up_step hh.dn hi,resL,hc,if_pos hp];rfl
end
set_option maxHeartbeats 400000
def rkN (t:List Pl) (i:Int) (j:Nat):Nat:=(keptN t i j).length
section
variable {t:List Pl} {i:Int}
theorem rk_succ {k:Nat} :rkN t i (k+1)=rkN t i k+if underF t k i=true then 0 else 1:=by
 unfold rkN;rw[kept_succ,List.length_append];split<;>rfl
theorem rk_add {a:Nat} :∀d:Nat,rkN t i a≤rkN t i (a+d)∧rkN t i (a+d)≤rkN t i a+d
 | 0=>⟨Nat.le_refl _,Nat.le_refl _⟩
 | d+1=>by
  have:=rk_add (a:=a) d;rw[←Nat.add_assoc,rk_succ];split<;>omega
theorem rk_mono {j k:Nat} (h:j≤k):rkN t i j≤rkN t i k:=by
 have:=(rk_add (t:=t) (i:=i) (a:=j) (k-j)).1
 rwa [Nat.add_sub_cancel' h]at this
theorem rk_lt {j k:Nat} (hu:underF t j i=false) (h:j<k):rkN t i j<rkN t i k:=by
 have h1:=rk_mono (t:=t) (i:=i) (j:=j+1) (k:=k) (by omega);rw[rk_succ,hu]at h1;simp at h1;omega
theorem kept_get:∀(m:Nat) {j:Nat},j<m→underF t j i=false→(keptN t i m)[rkN t i j]? =some j
 | 0,j,h,_=>by omega
 | m+1,j,h,hu=>by
  rw[kept_succ];rcases Nat.lt_or_ge j m with h1 | h1
  ·rw[List.getElem?_append_left (rk_lt hu h1)];exact kept_get m h1 hu
  ·have:j=m:=(by omega);subst this;rw[hu,List.getElem?_append_right (show(keptN t i j).length≤rkN t i j from Nat.le_refl _)];simp[rkN]
theorem cut_len {m:Nat} :(cutT t i m).length=rkN t i m:=cutT_len
theorem renum_nn {n:Int} (h:0≤n):renum t i n=rkN t i n.toNat:=by
 unfold renum;rw[if_neg (by omega)];rfl
theorem cutCode_inv (h:cutCode t i=0):Good t∧1≤i∧i<t.length:=by
 unfold cutCode at h;split at h
 ·rename_i h1;exact absurd h h1
 rename_i h1;split at h
 ·rename_i h2;exact⟨check_iff.1 (Decidable.not_not.1 h1),h2⟩
 ·cases h
theorem mem_up (g:Good t):∀(m:Nat) {j x:Nat},j<m→j<t.length→x∈upN t j→x≤j
 | 0,j,x,h,_,_=>by omega
 | m+1,j,x,h,hj,hx=>by
  have hd:=g.dn j hj;rw[up_step g.dn hj]at hx;rcases List.mem_cons.1 hx with rfl | hx
  ·exact Nat.le_refl _
  ·split at hx
   ·cases hx
   ·have:=mem_up g m (j:=(parN t j).toNat) (by omega) (by omega) hx;omega
theorem under_ge (g:Good t) {j:Nat} (hj:j<t.length) (h:underF t j i=true):i≤j:=by
 unfold underF at h;obtain⟨x,hx,h⟩:=List.any_eq_true.1 h;have:=mem_up g _ (Nat.lt_succ_self j) hj hx;have:=of_decide_eq_true h;omega
theorem under_self (g:Good t) {j:Nat} (hj:j<t.length):underF t j j=true:=by
 rw[under_step g.dn hj];simp
theorem under_par (g:Good t) {j:Nat} (hj:j<t.length) (h1:1≤j) (hu:underF t j i=false):underF t (parN t j).toNat i=false:=by
 rw[under_step g.dn hj]at hu;have:=g.par j h1 hj;simp at hu;exact hu.2 this.1
theorem under_root (g:Good t) (hi:1≤i):underF t 0 i=false:=by
 cases h:underF t 0 i with
 | false=>rfl
 | true=>have:=under_ge g g.pos h;omega
end
set_option linter.unusedSectionVars false
section
variable {t:List Pl} {i:Int} (g:Good t) (h1:1≤i) (h2:i<t.length)
include g h1 h2
end
section
variable {t:List Pl}
end
set_option maxHeartbeats 400000
theorem bsL_empty:bsL ⟨#[]⟩=[]:=rfl
theorem by8_get {l:List UInt8} {i:Nat} (h:i<l.length):by8 l i=l[i]:=by
 simp[by8,List.getD_eq_getElem?_getD,h]
theorem ib_in:∀ {a r:List UInt8} {c:UInt8},c∉a→Lib.indexByte (a++c::r) c=a.length
 | [],r,c,_=>by simp[Lib.indexByte]
 | b::a,r,c,h=>by
  have h1:(b==c)=false:=by
   simpa using fun e=>h (by simp[e])
  have h2:=ib_in (a:=a) (r:=r) (c:=c) (fun e=>h (List.mem_cons_of_mem _ e));rw[List.cons_append,Lib.indexByte,h1,h2];have h3:((a.length:Int)== -1)=false:=by
   rw[beq_eq_false_iff_ne];omega
  simp[h3]
theorem ib_out:∀ {a:List UInt8} {c:UInt8},c∉a→Lib.indexByte a c= -1
 | [],c,_=>rfl
 | b::a,c,h=>by
  have h1:(b==c)=false:=by
   simpa using fun e=>h (by simp[e])
  rw[Lib.indexByte,h1,ib_out (a:=a) (fun e=>h (List.mem_cons_of_mem _ e))];simp
theorem cut_in {a r:List UInt8} {c:UInt8} (h:c∉a):Lib.cut (a++c::r) [c]=(a,r,true):=by
 unfold Lib.cut;rw[Lib.index_one,ib_in h,if_pos (by omega)];simp
theorem cut_out {a:List UInt8} {c:UInt8} (h:c∉a):Lib.cut a [c]=(a,[],false):=by
 unfold Lib.cut;rw[Lib.index_one,ib_out h,if_neg (by omega)]
theorem first_at:∀ {l:List UInt8} {c:UInt8},c∈l→∃a r,c∉a∧l=a++c::r
 | [],c,h=>by cases h
 | b::l,c,h=>by
  by_cases hb:c=b
  ·exact⟨[],l,by simp,by simp[hb]⟩
  ·obtain⟨a,r,h1,h2⟩:=first_at (l:=l) (c:=c) (by simpa [hb]using h);exact⟨b::a,r,by simp[hb,h1],by simp[h2]⟩
theorem cut_spec (l:List UInt8) (c:UInt8):(c∉l∧Lib.cut l [c]=(l,[],false))∨(∃a r,c∉a∧l=a++c::r∧Lib.cut l [c]=(a,r,true)):=by
 by_cases h:c∈l
 ·obtain⟨a,r,h1,h2⟩:=first_at h;exact .inr ⟨a,r,h1,h2,by rw[h2,cut_in h1]⟩
 ·exact .inl ⟨h,cut_out h⟩
theorem trim_in {p r:List UInt8} :Lib.trimPrefix (p++r) p=r:=by
 have:Lib.hasPrefix (p++r) p=true:=List.isPrefixOf_iff_prefix.2 ⟨r,rfl⟩;unfold Lib.trimPrefix;rw[this];simp
def joinB (l:List Bs):List UInt8:=Lib.join (l.map fun b=>bsL (preB b)) [47]
open Go Go.RowKit
section
variable {P:Program} [Gl P] {N:Nat} {K:Exit→KS} {s:Sl} {G:Hp} {nx:Nat}
theorem aw_un {a b c:Code} (h:AW P N (.seq (.seq a b) c) K s G nx):AW P N (.seq a (.seq b c)) K s G nx:=by
 have e:AW P N (.seq (.seq a b) c) K=AW P N (.seq a (.seq b c)) K:=by
  show AW P N a _=AW P N a _;congr 1;funext e;cases e<;>rfl
 rw[←e];exact h
theorem aops_app {ops:Array Oper} {d:Bool} {K:KS} :∀(a b:List Oper),AOps P N ops d (a++b) K=AOps P N ops d a (AOps P N ops d b K)
 | [],b=>rfl
 | o::a,b=>by
  show AStep P N ops d o (AOps P N ops d (a++b) K)=AStep P N ops d o (AOps P N ops d a (AOps P N ops d b K));rw[aops_app a b]
theorem aops_part {ops:Array Oper} {d:Bool} {K:KS} {os:List Oper} (j:Nat) (h:∀K2:KS,(∀s G nx,AOps P N ops d (os.drop j) K s G nx→K2 s G nx)→AOps P N ops d (os.take j) K2 s G nx):AOps P N ops d os K s G nx:=by
 have:=h _ fun _ _ _ h=>h;rw[←aops_app,List.take_append_drop]at this;exact this
end
set_option maxRecDepth 100000
set_option maxHeartbeats 1000000
theorem c34:Tryz.prog.cellsOf 58=6:=by kernel_rfl
theorem frz_new {G:Hp} {r n:Nat} {t:List Pl} (hG:G r=some (.row 58 (flat Pl.cells t))) (hne:t≠[]):frzOf G (.row r n)=G.upd r (.frz 58 (flat Pl.cells t)):=by
 cases t with
 | nil=>exact absurd rfl hne
 | cons p t=>rw[frzOf_row,hG];rfl
theorem frz_old {G:Hp} {r n:Nat} {e:Nat} {cs:List AV} (hG:G r=some (.frz e cs)):frzOf G (.row r n)=G:=by
 rw[frzOf_row,hG]
theorem filter_both {α:Type} (p:α→Bool):∀l:List α,(l.filter p).length+(l.filter fun x=> !p x).length=l.length
 | []=>rfl
 | a::l=>by
  have:=filter_both p l;cases h:p a<;>simp[h]<;>omega
theorem below_kept {t:List Pl} {i:Nat} (g:Good t) (hi:i<t.length):(belowL t i).length+rkN t i t.length=t.length:=by
 have hh:holdsF t i=true:=holds_iff.2 ⟨g,by omega,by omega⟩;rw[belowL,hh,if_pos rfl,Int.toNat_natCast];unfold belowK rkN keptN;rw[List.length_map];have e:(List.range t.length).filter (fun j=>decide (i≤j)&&underF t j i)=(List.range t.length).filter (fun j=>underF t j i):=by
  refine List.filter_congr fun j hj=> ?_;have hj:=List.mem_range.1 hj;cases hu:underF t j i with
  | false=>simp
  | true=>have:=under_ge g hj hu;simp;omega
 rw[e];have:=filter_both (fun j=>underF t j i) (List.range t.length);rw[List.length_range]at this;exact this
theorem below_mem {t:List Pl} {i k:Nat} (g:Good t) (hi:i<t.length) (hk:k<t.length):(belowL t i).any (fun x=>decide (x=(k:Int)))=underF t k i:=by
 have hh:holdsF t i=true:=holds_iff.2 ⟨g,by omega,by omega⟩;rw[belowL,hh,if_pos rfl,Int.toNat_natCast];unfold belowK;rw[Bool.eq_iff_iff,List.any_eq_true];constructor
 ·rintro⟨x,hx,h⟩;obtain⟨j,hj,rfl⟩:=List.mem_map.1 hx;have h:=of_decide_eq_true h;have:j=k:=(by omega);subst this;have:=(List.mem_filter.1 hj).2;simp at this;exact this.2
 ·intro hu;have:=under_ge g hk hu;exact⟨k,List.mem_map.2 ⟨k,List.mem_filter.2 ⟨List.mem_range.2 hk,by simp[hu];omega⟩,rfl⟩,by simp⟩
set_option maxRecDepth 100000
set_option maxHeartbeats 1000000
theorem ib_at {l:List UInt8} {c:UInt8} {i:Nat} (h:i<l.length) (hc:by8 l i=c) (hn:∀j,j<i→by8 l j≠c):Lib.indexByte l c=i:=by
 have e:l=l.take i++c::l.drop (i+1):=by
  rw[←hc,by8_get h,List.getElem_cons_drop];simp
 have hm:c∉l.take i:=by
  intro hm;obtain⟨j,hj,he⟩:=List.mem_iff_getElem.1 hm;rw[List.length_take]at hj;rw[List.getElem_take]at he;exact hn j (by omega) (by rw[by8_get (by omega),he])
 rw[e,ib_in hm,List.length_take];omega
theorem ib_no {l:List UInt8} {c:UInt8} (hn:∀j,j<l.length→by8 l j≠c):Lib.indexByte l c= -1:=by
 refine ib_out fun hm=> ?_;obtain⟨j,hj,he⟩:=List.mem_iff_getElem.1 hm;exact hn j hj (by rw[by8_get hj,he])
theorem u8_of {c:UInt8} {n:Nat} (h:(c.toNat:Int)=n) (hn:n<256):c=UInt8.ofNat n:=by
 apply UInt8.toNat_inj.1;rw[UInt8.toNat_ofNat_of_lt' (by simpa using hn)];omega
theorem slash55_ok (s:Bs) (hs:s.size≤4611686018427387904):CallsOK Tryz.prog 200 [sV s] (iV (Lib.indexByte (bsL s) 47)) []:=by
 refine callsOK mixed Tryz.call200 Tryz.func200 rfl (by rw[Tryz.ntmps200];simp) ?_ rfl;rw[Tryz.ntmps200];have hl:(bsL s).length=s.size:=bsL_len s;with_reducible refine aR fun K' hK=> ?_
 simp;refine hK _ _ _ ?_;clear K' hK;with_reducible refine aA ?_;refine aR fun K' hK=> ?_
 simp;refine hK _ _ _ ?_;clear K' hK;with_reducible refine aw_block ?_
 refine aw_loop (fun t G nx=>t 0=sV s∧∃i:Nat,t 3=iV i∧i≤s.size∧∀j,j<i→by8 (bsL s) j≠47) (fun s' _ _=>match s' 3 with | .v (.int _ n)=>s.size-n.toNat | _=>0) ?_ ?_
 ·exact⟨by simp,0,by simp,by omega,fun j hj=>by omega⟩
 ·rintro t G nx-⟨t0,i,t3,hi,hn⟩;have hw:IntKind.i64.wrap (↑i+1)=((i+1:Nat):Int):=wrapS (by omega);with_reducible refine aA ?_;refine aR fun K' hK=> ?_
  simp[t0,t3];refine hK _ _ _ ?_;clear K' hK;with_reducible refine aC fun A B hA hB=> ?_
  simp;refine⟨fun hi2=>hA ?_,fun hi2=>hB ?_⟩<;>clear hA hB A B<;>(try simp at hi2)<;>(try with_reducible refine aK ?_)
  ·skip;with_reducible refine aw_block ?_
   have hcc:byteA s i=by8 (bsL s) i:=rfl;generalize hc:by8 (bsL s) i=c at hcc;by_cases a1:(c.toNat:Int)=47
   ·have hc47:c=47:=u8_of (n:=47) a1 (by decide);with_reducible refine aR fun K' hK=> ?_
    simp[t0,t3,hi2,hcc,a1];refine hK _ _ _ ?_;clear K' hK;with_reducible refine aU (by simp) ?_;refine aA ?_;refine aR fun K' hK=> ?_
    simp[t3];refine hK _ _ _ ?_;clear K' hK;with_reducible refine aw_ret ?_
    simp[blockK,loopK,Post,resA,res1,expT,expA,exp1,expM,expL,okT,okA,ok1,rowOf,Tryz.f200];exact(ib_at (by omega) (by rw[hc,hc47]) hn).symm
   ·skip;with_reducible refine aR fun K' hK=> ?_
    simp[t0,t3,hi2,hcc,a1];refine hK _ _ _ ?_;clear K' hK;with_reducible refine aVk (by simp) ?_;refine aw_skipL ?_
    refine blockK_normal ?_;with_reducible refine aS fun K' hK=> ?_
    simp[t3,hw];refine hK _ _ _ ?_;clear K' hK;refine aw_skipL (loopK_normal ?_ ?_)
    ·refine⟨by simp[t0],i+1,by simp[hw],by omega,fun j hj=> ?_⟩;rcases Nat.lt_or_ge j i with h | h
     ·exact hn j h
     ·have:j=i:=(by omega);subst this;rw[hc];intro h;exact a1 (by rw[h];rfl)
    ·simp[t3,hw];omega
  ·skip;with_reducible refine aw_exit ?_
   refine loopK_exit (blockK_exit ?_);with_reducible refine aR fun K' hK=> ?_
   simp;refine hK _ _ _ ?_;clear K' hK;with_reducible refine aw_retL ?_
   simp[blockK,loopK,Post,resA,res1,expT,expA,exp1,expM,expL,okT,okA,ok1,rowOf,Tryz.f200];exact(ib_no fun j hj=>hn j (by omega)).symm
theorem plain56_ok (s:Bs) (hs:s.size≤4611686018427387904):CallsOK Tryz.prog 201 [sV s] (bV (plainF (bsL s))) []:=by
 refine callsOK mixed Tryz.call201 Tryz.func201 rfl (by rw[Tryz.ntmps201];simp) ?_ rfl;rw[Tryz.ntmps201];have hl:(bsL s).length=s.size:=bsL_len s;with_reducible refine aR fun K' hK=> ?_
 simp;refine hK _ _ _ ?_;clear K' hK;with_reducible refine aA ?_;refine aR fun K' hK=> ?_
 simp;refine hK _ _ _ ?_;clear K' hK;with_reducible refine aw_block ?_
 refine aw_loop (fun t G nx=>t 0=sV s∧∃i:Nat,t 3=iV i∧i≤s.size∧(List.range i).all (plAt (bsL s))=true) (fun s' _ _=>match s' 3 with | .v (.int _ n)=>s.size-n.toNat | _=>0) ?_ ?_
 ·exact⟨by simp,0,by simp,by omega,by simp⟩
 ·rintro t G nx-⟨t0,i,t3,hi,ht⟩;have hw:IntKind.i64.wrap (↑i+1)=((i+1:Nat):Int):=wrapS (by omega);with_reducible refine aA ?_;refine aR fun K' hK=> ?_
  simp[t0,t3];refine hK _ _ _ ?_;clear K' hK;with_reducible refine aC fun A B hA hB=> ?_
  simp;refine⟨fun hi2=>hA ?_,fun hi2=>hB ?_⟩<;>clear hA hB A B<;>(try simp at hi2)<;>(try with_reducible refine aK ?_)
  ·skip;with_reducible refine aw_block ?_
   have hcc:byteA s i=by8 (bsL s) i:=rfl;generalize hc:by8 (bsL s) i=c at hcc;with_reducible refine aR fun K' hK=> ?_
   simp[t0,t3,hi2,hcc];refine hK _ _ _ ?_;clear K' hK;refine aw_cut (fun t' G' nx'=>t' 0=sV s∧t' 3=iV i∧t' 4=.v (.int .u8 c.toNat)∧t' 5=bV (wordB c)) ?_ ?_
   ·by_cases a1:(97:Int)≤(c.toNat:Int)
    ·by_cases a2:(c.toNat:Int)≤122
     ·skip;with_reducible refine aS fun K' hK=> ?_
      simp[a1,a2];refine hK _ _ _ ?_;clear K' hK;with_reducible refine aw_end ?_
      simp[t0,t3,wordB,a1,a2]
     ·have a3:¬(c.toNat:Int)≤57:=(by omega);by_cases a4:(48:Int)≤(c.toNat:Int)
      ·skip;with_reducible refine aS fun K' hK=> ?_
       simp[a1,a2,a3,a4];refine hK _ _ _ ?_;clear K' hK;with_reducible refine aw_end ?_
       simp[t0,t3,wordB,a1,a2,a3]
      ·omega
    ·by_cases a4:(48:Int)≤(c.toNat:Int)
     ·by_cases a3:(c.toNat:Int)≤57
      ·skip;with_reducible refine aS fun K' hK=> ?_
       simp[a1,a3,a4];refine hK _ _ _ ?_;clear K' hK;with_reducible refine aw_end ?_
       simp[t0,t3,wordB,a1,a3,a4]
      ·skip;with_reducible refine aS fun K' hK=> ?_
       simp[a1,a3,a4];refine hK _ _ _ ?_;clear K' hK;with_reducible refine aw_end ?_
       simp[t0,t3,wordB,a1,a3]
     ·skip;with_reducible refine aS fun K' hK=> ?_
      simp[a1,a4];refine hK _ _ _ ?_;clear K' hK;with_reducible refine aw_end ?_
      simp[t0,t3,wordB,a1,a4]
   rintro u G' nx' ⟨u0,u3,u4,u5⟩;have hbad:plAt (bsL s) i=false→plainF (bsL s)=false:=fun h=>by
    rw[plainF,range_false (i:=i) (n:=(bsL s).length) (by omega) h];rfl
   have hgo:∀(h:plAt (bsL s) i=true),(List.range (i+1)).all (plAt (bsL s))=true:=fun h=>(by rw[range_all,ht,h];rfl);cases hwd:wordB c with
   | true=>
    rw[hwd]at u5;with_reducible refine aR fun K' hK=> ?_
    simp[u5];refine hK _ _ _ ?_;clear K' hK;with_reducible refine aVk (by simp) ?_;refine aw_skipL ?_
    refine blockK_normal ?_;with_reducible refine aS fun K' hK=> ?_
    simp[u3,hw];refine hK _ _ _ ?_;clear K' hK;refine aw_skipL (loopK_normal ?_ ?_)
    ·exact⟨by simp[u0],i+1,by simp[hw],by omega,hgo (by simp[plAt,hc,hwd])⟩
    ·simp[t3,hw];omega
   | false=>
    rw[hwd]at u5;by_cases hi0:i=0
    ·skip;with_reducible refine aR fun K' hK=> ?_
     simp[u3,u5,hi0];refine hK _ _ _ ?_;clear K' hK;with_reducible refine aU (by simp) ?_;refine aA ?_;refine aR fun K' hK=> ?_
     simp;refine hK _ _ _ ?_;clear K' hK;with_reducible refine aw_ret ?_
     simp[blockK,loopK,Post,resA,res1,expT,expA,exp1,expM,expL,okT,okA,ok1,rowOf,Tryz.f201];exact hbad (by subst hi0;simp[plAt,hc,hwd])
    ·by_cases b1:(c.toNat:Int)=45
     ·have h45:c=45:=u8_of (n:=45) b1 (by decide);with_reducible refine aR fun K' hK=> ?_
      simp[u3,u4,u5,hi0,b1];refine hK _ _ _ ?_;clear K' hK;with_reducible refine aVk (by simp) ?_;refine aw_skipL ?_
      refine blockK_normal ?_;with_reducible refine aS fun K' hK=> ?_
      simp[u3,hw];refine hK _ _ _ ?_;clear K' hK;refine aw_skipL (loopK_normal ?_ ?_)
      ·exact⟨by simp[u0],i+1,by simp[hw],by omega,hgo (by simp[plAt,hc,hi0,sepB,h45])⟩
      ·simp[t3,hw];omega
     ·by_cases b2:(c.toNat:Int)=95
      ·have h95:c=95:=u8_of (n:=95) b2 (by decide);with_reducible refine aR fun K' hK=> ?_
       simp[u3,u4,u5,hi0,b1,b2];refine hK _ _ _ ?_;clear K' hK;with_reducible refine aVk (by simp) ?_;refine aw_skipL ?_
       refine blockK_normal ?_;with_reducible refine aS fun K' hK=> ?_
       simp[u3,hw];refine hK _ _ _ ?_;clear K' hK;refine aw_skipL (loopK_normal ?_ ?_)
       ·exact⟨by simp[u0],i+1,by simp[hw],by omega,hgo (by simp[plAt,hc,hi0,sepB,h95])⟩
       ·simp[t3,hw];omega
      ·by_cases b3:(c.toNat:Int)=46
       ·have h46:c=46:=u8_of (n:=46) b3 (by decide);with_reducible refine aR fun K' hK=> ?_
        simp[u3,u4,u5,hi0,b1,b2,b3];refine hK _ _ _ ?_;clear K' hK;with_reducible refine aVk (by simp) ?_;refine aw_skipL ?_
        refine blockK_normal ?_;with_reducible refine aS fun K' hK=> ?_
        simp[u3,hw];refine hK _ _ _ ?_;clear K' hK;refine aw_skipL (loopK_normal ?_ ?_)
        ·exact⟨by simp[u0],i+1,by simp[hw],by omega,hgo (by simp[plAt,hc,hi0,sepB,h46])⟩
        ·simp[t3,hw];omega
       ·skip;with_reducible refine aR fun K' hK=> ?_
        simp[u3,u4,u5,hi0,b1,b2,b3];refine hK _ _ _ ?_;clear K' hK;with_reducible refine aU (by simp) ?_;refine aA ?_;refine aR fun K' hK=> ?_
        simp;refine hK _ _ _ ?_;clear K' hK;with_reducible refine aw_ret ?_
        simp[blockK,loopK,Post,resA,res1,expT,expA,exp1,expM,expL,okT,okA,ok1,rowOf,Tryz.f201];refine hbad ?_;have h1:¬c=45:=fun h=>b1 (by rw[h];rfl);have h2:¬c=95:=fun h=>b2 (by rw[h];rfl);have h3:¬c=46:=fun h=>b3 (by rw[h];rfl);simp[plAt,hc,hwd,sepB,h1,h2,h3]
  ·skip;with_reducible refine aw_exit ?_
   refine loopK_exit (blockK_exit ?_);with_reducible refine aR fun K' hK=> ?_
   simp[t0];refine hK _ _ _ ?_;clear K' hK;with_reducible refine aw_retL ?_
   simp[blockK,loopK,Post,resA,res1,expT,expA,exp1,expM,expL,okT,okA,ok1,rowOf,Tryz.f201];have:i=(bsL s).length:=(by omega);subst this;rw[plainF,ht,Bool.true_and];simp[empty_iff]
theorem bsL_ext (s:Bs) (a b:Nat):bsL (s.extract a b)=((bsL s).take b).drop a:=by
 rw[←toL_bsL,Lib.extract_toList,List.drop_take];rfl
theorem good36_ok (s:Bs) (hs:s.size≤4611686018427387904):CallsOK Tryz.prog 163 [sV s] (bV (goodF (bsL s))) []:=by
 refine callsOK mixed Tryz.call163 Tryz.func163 rfl (by rw[Tryz.ntmps163];simp) ?_ rfl;rw[Tryz.ntmps163];have hl:(bsL s).length=s.size:=bsL_len s;with_reducible refine aR fun K' hK=> ?_
 simp;refine hK _ _ _ ?_;clear K' hK;by_cases h40:(40:Int)<s.size
 ·with_reducible refine aA ?_;refine aR fun K' hK=> ?_
  simp[h40];refine hK _ _ _ ?_;clear K' hK;with_reducible refine aX (by simp) ?_;refine aA ?_;refine aR fun K' hK=> ?_
  simp;refine hK _ _ _ ?_;clear K' hK;with_reducible refine aw_ret ?_
  simp[blockK,loopK,Post,resA,res1,expT,expA,exp1,expM,expL,okT,okA,ok1,rowOf,Tryz.f163];rw[goodF,if_pos (.inl (by omega))]
 ·by_cases hnm:s=⟨#[110,111,100,101,95,109,111,100,117,108,101,115]⟩
  ·with_reducible refine aA ?_;refine aR fun K' hK=> ?_
   simp[h40,hnm];refine hK _ _ _ ?_;clear K' hK;with_reducible refine aX (by simp) ?_;refine aA ?_;refine aR fun K' hK=> ?_
   simp;refine hK _ _ _ ?_;clear K' hK;with_reducible refine aw_ret ?_
   simp[blockK,loopK,Post,resA,res1,expT,expA,exp1,expM,expL,okT,okA,ok1,rowOf,Tryz.f163];rw[goodF,if_pos (.inr (by rw[hnm];rfl))]
  ·have hnl:¬(40<(bsL s).length∨bsL s=nodeL):=by
    rintro(h | h)
    ·omega
    ·exact hnm (bsL_inj h)
   with_reducible refine aA ?_;refine aR fun K' hK=> ?_
   simp[h40,hnm];refine hK _ _ _ ?_;clear K' hK;with_reducible refine aYk (by simp) ?_;refine aR fun K' hK=> ?_
   simp;refine acall_flat (slash55_ok s hs) rfl (by first | rfl | (simp;done) | (simp;rfl) | (simp;exact⟨rfl,rfl⟩)) ?_;simp;refine hK _ _ _ ?_;clear K' hK;by_cases he:s=⟨#[]⟩
   ·with_reducible refine aA ?_;refine aR fun K' hK=> ?_
    simp[he];refine hK _ _ _ ?_;clear K' hK;with_reducible refine aX (by simp) ?_;refine aA ?_;refine aR fun K' hK=> ?_
    simp;refine acall_flat (plain56_ok ⟨#[]⟩ (by decide)) rfl (by first | rfl | (simp;done) | (simp;rfl) | (simp;exact⟨rfl,rfl⟩)) ?_;simp;refine hK _ _ _ ?_;clear K' hK;with_reducible refine aw_ret ?_
    simp[blockK,loopK,Post,resA,res1,expT,expA,exp1,expM,expL,okT,okA,ok1,rowOf,Tryz.f163];rw[he];decide+kernel
   ·have hpos:0<s.size:=by
     rcases Nat.eq_zero_or_pos s.size with h | h
     ·exact absurd ((empty_iff s).2 (List.eq_nil_of_length_eq_zero (by omega))) he
     ·exact h
    have hcc:byteA s 0=by8 (bsL s) 0:=rfl;obtain⟨b,r,hL⟩:∃b r,bsL s=b::r:=List.exists_cons_of_ne_nil (List.ne_nil_of_length_pos (by omega))
    ·skip;have hb:by8 (bsL s) 0=b:=(by rw[hL];rfl);rw[hb]at hcc;by_cases h64:(b.toNat:Int)=64
     ·have hb64:b=64:=u8_of (n:=64) h64 (by decide);subst hb64;with_reducible refine aA ?_;refine aR fun K' hK=> ?_
      simp[he,hpos,hcc,h64];refine hK _ _ _ ?_;clear K' hK;with_reducible refine aYk (by simp) ?_
      have hgd:goodF (64::r)=((Lib.cut r [47]).2.2&&(plainF (Lib.cut r [47]).1&&plainF (Lib.cut r [47]).2.1)):=by
       rw[goodF,if_neg (by rw[←hL];exact hnl),if_neg (by simp[Lib.hasPrefix,List.isPrefixOf])];rw[show Lib.trimPrefix (64::r) [64]=r from trim_in (p:=[64])]
      rcases cut_spec r 47 with⟨hno,hc⟩ | ⟨x,y,hx,hr,hc⟩
      ·have hk:Lib.indexByte (bsL s) 47= -1:=(by rw[hL];exact ib_out (by simp[hno]));with_reducible refine aR fun K' hK=> ?_
       simp[hk];refine hK _ _ _ ?_;clear K' hK;with_reducible refine aw_retL ?_
       simp[blockK,loopK,Post,resA,res1,expT,expA,exp1,expM,expL,okT,okA,ok1,rowOf,Tryz.f163];rw[hL,hgd,hc];simp
      ·have hk:Lib.indexByte (bsL s) 47=(x.length+1:Nat):=by
        rw[hL,hr];exact ib_in (a:=64::x) (by simp[hx])
       have e1:bsL (s.extract 1 (x.length+1))=x:=(by rw[bsL_ext,hL,hr];simp);have e2:bsL (s.extract (x.length+1+1) s.size)=y:=by
        rw[bsL_ext,←hl,List.take_length,hL,hr];simp
       have hsz:x.length+1+1≤s.size:=(by rw[←hl,hL,hr];simp);have hw1:IntKind.i64.wrap ((x.length:Int)+1+1)=((x.length+1+1:Nat):Int):=(by rw[wrap64 (by omega) (by omega)];omega);have p1:=plain56_ok (s.extract 1 (x.length+1)) (by rw[←bsL_len,e1];omega);have p2:=plain56_ok (s.extract (x.length+1+1) s.size) (by rw[←bsL_len,e2];rw[hL,hr]at hl;simp at hl;omega);rw[e1]at p1;rw[e2]at p2;have a1:(0:Int)<((x.length+1:Nat):Int):=(by omega);have b1:(0:Int)≤(x.length:Int)+1:=(by omega);have b2:x.length+1≤s.size:=(by omega);have b3:(0:Int)≤(x.length:Int)+1+1:=(by omega);have b4:(x.length:Int)+1+1≤s.size:=(by omega);have b5:((x.length:Int)+1+1).toNat=x.length+1+1:=(by omega);with_reducible refine aR fun K' hK=> ?_
       simp[hk,a1,bnd_some,b1,b2];refine acall_flat p1 rfl (by first | rfl | (simp;done) | (simp;rfl) | (simp;exact⟨rfl,rfl⟩)) ?_;cases hpx:plainF x with
       | false=>
        simp;refine hK _ _ _ ?_;clear K' hK;with_reducible refine aw_retL ?_
        simp[blockK,loopK,Post,resA,res1,expT,expA,exp1,expM,expL,okT,okA,ok1,rowOf,Tryz.f163];rw[hL,hgd,hc];simp[hpx]
       | true=>
        simp[hk,hw1,b3,b4,b5,hsz,bnd_some];refine acall_flat p2 rfl (by first | rfl | (simp;done) | (simp;rfl) | (simp;exact⟨rfl,rfl⟩)) ?_;simp;refine hK _ _ _ ?_;clear K' hK;with_reducible refine aw_retL ?_
        simp[blockK,loopK,Post,resA,res1,expT,expA,exp1,expM,expL,okT,okA,ok1,rowOf,Tryz.f163];rw[hL,hgd,hc];simp[hpx]
     ·have h64':¬b=64:=fun h=>h64 (by rw[h];rfl);with_reducible refine aA ?_;refine aR fun K' hK=> ?_
      simp[he,hpos,hcc,h64];refine hK _ _ _ ?_;clear K' hK;with_reducible refine aX (by simp) ?_;refine aA ?_;refine aR fun K' hK=> ?_
      simp;refine acall_flat (plain56_ok s hs) rfl (by first | rfl | (simp;done) | (simp;rfl) | (simp;exact⟨rfl,rfl⟩)) ?_;simp;refine hK _ _ _ ?_;clear K' hK;with_reducible refine aw_ret ?_
      simp[blockK,loopK,Post,resA,res1,expT,expA,exp1,expM,expL,okT,okA,ok1,rowOf,Tryz.f163];have hp:Lib.hasPrefix (b::r) [64]=false:=by
       have:((64:UInt8)==b)=false:=(by simpa using fun h=>h64' h.symm);simp[Lib.hasPrefix,List.isPrefixOf,this]
      rw[goodF,if_neg hnl,hL,hp,if_pos rfl]
set_option maxRecDepth 100000
set_option maxHeartbeats 1000000
theorem may57_ok (n:Int):CallsOK Tryz.prog 152 [iV n] (bV (inR n)) []:=by
 refine callsOK mixed Tryz.call152 Tryz.func152 rfl (by rw[Tryz.ntmps152];simp) ?_ rfl;rw[Tryz.ntmps152];with_reducible refine aR fun K' hK=> ?_
 simp;refine hK _ _ _ ?_;clear K' hK;by_cases h:0≤n
 ·skip;with_reducible refine aR fun K' hK=> ?_
  simp[h];refine hK _ _ _ ?_;clear K' hK;with_reducible refine aw_retL ?_
  simp[blockK,loopK,Post,resA,res1,expT,expA,exp1,expM,expL,okT,okA,ok1,rowOf,Tryz.f152];simp[inR,h]
 ·skip;with_reducible refine aR fun K' hK=> ?_
  simp[h];refine hK _ _ _ ?_;clear K' hK;with_reducible refine aw_retL ?_
  simp[blockK,loopK,Post,resA,res1,expT,expA,exp1,expM,expL,okT,okA,ok1,rowOf,Tryz.f152];simp[inR,h]
def digB (c:UInt8):Bool:=decide ((48:Int)≤(c.toNat:Int))&&decide ((c.toNat:Int)≤57)
theorem dig_all:∀i:_root_.Fin 256,digs.contains (UInt8.ofNat i)=digB (UInt8.ofNat i):=by decide+kernel
theorem dig_eq (c:UInt8):digs.contains c=digB c:=by
 have:=dig_all ⟨c.toNat,c.toNat_lt⟩;simpa using this
theorem dropW_nil {α:Type} {p:α→Bool} :∀ {l:List α},l.dropWhile p=[]↔l.all p=true
 | []=>by simp
 | a::l=>by
  rw[List.dropWhile_cons,List.all_cons];cases h:p a with
  | true=>simp[dropW_nil (p:=p) (l:=l)]
  | false=>simp
theorem dropW_all {α:Type} {p:α→Bool} :∀ {l:List α},(l.dropWhile p).all p=true→l.all p=true
 | [],_=>rfl
 | a::l,h=>by
  rw[List.dropWhile_cons]at h;rw[List.all_cons];cases hp:p a with
  | true=>
   rw[hp,if_pos rfl]at h;rw[dropW_all h];rfl
  | false=>rw[hp,if_neg (by simp),List.all_cons,hp]at h;simp at h
theorem trim_nil (l:List UInt8):Lib.trimS l digs=[]↔l.all digB=true:=by
 have e:(fun c=>digs.contains c)=digB:=funext dig_eq;unfold Lib.trimS Lib.trimLeftS Lib.trimRightS;rw[e,dropW_nil,List.all_reverse];constructor
 ·intro h;have:=dropW_all h
  rwa [List.all_reverse]at this
 ·intro h;have h2:l.reverse.dropWhile digB=[]:=dropW_nil.2 (by rw[List.all_reverse];exact h);rw[h2];rfl
theorem numP_eq (l:List UInt8):numP l=(l.all digB&& !decide (l=[])):=by
 unfold numP;rw[Bool.eq_iff_iff];simp only[Bool.and_eq_true,decide_eq_true_eq,trim_nil];exact⟨fun⟨a,b⟩=>⟨b,a⟩,fun⟨a,b⟩=>⟨b,a⟩⟩
theorem all_at {l:List UInt8} {p:UInt8→Bool} (h:∀i,i<l.length→p (by8 l i)=true):l.all p=true:=by
 rw[List.all_eq_true];intro x hx;obtain⟨i,hi,rfl⟩:=List.mem_iff_getElem.1 hx;rw[←by8_get hi];exact h i hi
theorem not_all {l:List UInt8} {p:UInt8→Bool} {i:Nat} (hi:i<l.length) (h:p (by8 l i)=false):l.all p=false:=by
 rw[List.all_eq_false];exact⟨by8 l i,by rw[by8_get hi];exact List.getElem_mem hi,by simp[h]⟩
theorem digits70_ok (s:Bs) (hs:s.size≤4611686018427387904):CallsOK Tryz.prog 190 [sV s] (bV (numP (bsL s))) []:=by
 refine callsOK mixed Tryz.call190 Tryz.func190 rfl (by rw[Tryz.ntmps190];simp) ?_ rfl;rw[Tryz.ntmps190,numP_eq];have hl:(bsL s).length=s.size:=bsL_len s;with_reducible refine aR fun K' hK=> ?_
 simp;refine hK _ _ _ ?_;clear K' hK;with_reducible refine aA ?_;refine aR fun K' hK=> ?_
 simp;refine hK _ _ _ ?_;clear K' hK;with_reducible refine aw_block ?_
 refine aw_loop (fun t G nx=>t 0=sV s∧∃i:Nat,t 3=iV i∧i≤s.size∧∀j,j<i→digB (by8 (bsL s) j)=true) (fun s' _ _=>match s' 3 with | .v (.int _ n)=>s.size-n.toNat | _=>0) ?_ ?_
 ·exact⟨by simp,0,by simp,by omega,fun j hj=>by omega⟩
 ·rintro t G nx-⟨t0,i,t3,hi,hn⟩;have hw:IntKind.i64.wrap (↑i+1)=((i+1:Nat):Int):=wrapS (by omega);with_reducible refine aA ?_;refine aR fun K' hK=> ?_
  simp[t0,t3];refine hK _ _ _ ?_;clear K' hK;with_reducible refine aC fun A B hA hB=> ?_
  simp;refine⟨fun hi2=>hA ?_,fun hi2=>hB ?_⟩<;>clear hA hB A B<;>(try simp at hi2)<;>(try with_reducible refine aK ?_)
  ·skip;with_reducible refine aw_block ?_
   have hcc:byteA s i=by8 (bsL s) i:=rfl;generalize hc:by8 (bsL s) i=c at hcc;by_cases a1:(c.toNat:Int)<48
   ·skip;with_reducible refine aR fun K' hK=> ?_
    simp[t0,t3,hi2,hcc,a1];refine hK _ _ _ ?_;clear K' hK;with_reducible refine aU (by simp) ?_;refine aA ?_;refine aR fun K' hK=> ?_
    simp;refine hK _ _ _ ?_;clear K' hK;with_reducible refine aw_ret ?_
    simp[blockK,loopK,Post,resA,res1,expT,expA,exp1,expM,expL,okT,okA,ok1,rowOf,Tryz.f190];intro h;have h:=List.all_eq_true.2 h;rw[not_all (p:=digB) (i:=i) (by omega) (by rw[hc];simp[digB];omega)]at h;cases h
   ·by_cases a2:(57:Int)<c.toNat
    ·skip;with_reducible refine aR fun K' hK=> ?_
     simp[t0,t3,hi2,hcc,a1,a2];refine hK _ _ _ ?_;clear K' hK;with_reducible refine aU (by simp) ?_;refine aA ?_;refine aR fun K' hK=> ?_
     simp;refine hK _ _ _ ?_;clear K' hK;with_reducible refine aw_ret ?_
     simp[blockK,loopK,Post,resA,res1,expT,expA,exp1,expM,expL,okT,okA,ok1,rowOf,Tryz.f190];intro h;have h:=List.all_eq_true.2 h;rw[not_all (p:=digB) (i:=i) (by omega) (by rw[hc];simp[digB];omega)]at h;cases h
    ·skip;with_reducible refine aR fun K' hK=> ?_
     simp[t0,t3,hi2,hcc,a1,a2];refine hK _ _ _ ?_;clear K' hK;with_reducible refine aVk (by simp) ?_;refine aw_skipL ?_
     refine blockK_normal ?_;with_reducible refine aS fun K' hK=> ?_
     simp[t3,hw];refine hK _ _ _ ?_;clear K' hK;refine aw_skipL (loopK_normal ?_ ?_)
     ·refine⟨by simp[t0],i+1,by simp[hw],by omega,fun j hj=> ?_⟩;rcases Nat.lt_or_ge j i with h | h
      ·exact hn j h
      ·have:j=i:=(by omega);subst this;rw[hc];simp[digB];omega
     ·simp[t3,hw];omega
  ·skip;with_reducible refine aw_exit ?_
   refine loopK_exit (blockK_exit ?_);with_reducible refine aR fun K' hK=> ?_
   simp[t0];refine hK _ _ _ ?_;clear K' hK;with_reducible refine aw_retL ?_
   simp[blockK,loopK,Post,resA,res1,expT,expA,exp1,expM,expL,okT,okA,ok1,rowOf,Tryz.f190];have hall:=all_at (p:=digB) (l:=bsL s) (fun j hj=>hn j (by omega));rw[hall];simp[empty_iff]
theorem wrapU8 {n:Int} (h0:0≤n) (h1:n<256):IntKind.u8.wrap n=n:=by
 simp[IntKind.wrap,IntKind.signed,IntKind.bits];omega
def numV (l:List UInt8):Int:=l.foldl (fun n c=>10*n+((c.toNat:Int)-48)) 0
def numR (l:List UInt8):Int:=if numOk l then numV l else-1
theorem numV_snoc {l:List UInt8} {i:Nat} (h:i<l.length):numV (l.take (i+1))=10*numV (l.take i)+((by8 l i).toNat-48):=by
 unfold numV;rw[List.take_add_one,List.getElem?_eq_getElem h,List.foldl_append,by8_get h];rfl
theorem numV_nn {l:List UInt8} (h:l.all digB=true):∀i,i≤l.length→0≤numV (l.take i)∧numV (l.take i)≤10^i-1
 | 0,_=>by simp[numV]
 | i+1,hi=>by
  have ih:=numV_nn h i (by omega);have hd:digB (by8 l i)=true:=(by rw[by8_get (by omega)];exact List.all_eq_true.1 h _ (List.getElem_mem _));simp[digB]at hd;rw[numV_snoc (by omega),Int.pow_succ];omega
theorem numR_nn {l:List UInt8} :decide (0≤numR l)=numOk l:=by
 unfold numR;cases h:numOk l with
 | false=>rfl
 | true=>
  have hp:numP l=true:=by
   unfold numOk at h;rw[Bool.and_eq_true]at h;exact h.1
  rw[numP_eq,Bool.and_eq_true]at hp;have:=(numV_nn hp.1 l.length (Nat.le_refl _)).1;rw[List.take_length]at this;simpa using this
theorem number71_ok (s:Bs) (hs:s.size≤4611686018427387904):CallsOK Tryz.prog 191 [sV s] (iV (numR (bsL s))) []:=by
 refine callsOK mixed Tryz.call191 Tryz.func191 rfl (by rw[Tryz.ntmps191];simp) ?_ rfl;rw[Tryz.ntmps191];have hl:(bsL s).length=s.size:=bsL_len s;have hbad:numOk (bsL s)=false→numR (bsL s)= -1:=fun h=>(by rw[numR,h];rfl);with_reducible refine aR fun K' hK=> ?_
 simp;refine hK _ _ _ ?_;clear K' hK;with_reducible refine aA ?_
 refine aw_cut (fun u G nx=>u 0=sV s∧u 22=bV (!numOk (bsL s))) ?_ ?_
 ·skip;with_reducible refine aS fun K' hK=> ?_
  simp;refine acall_flat (digits70_ok s hs) rfl (by first | rfl | (simp;done) | (simp;rfl) | (simp;exact⟨rfl,rfl⟩)) ?_;cases hp:numP (bsL s)with
  | false=>
   simp;refine hK _ _ _ ?_;clear K' hK;with_reducible refine aw_end ?_
   simp[numOk,hp]
  | true=>
   have hpe:=hp;rw[numP_eq,Bool.and_eq_true]at hpe;have hne:bsL s≠[]:=(by simpa using hpe.2);have hpos:0<s.size:=(by have:=List.length_pos_iff.2 hne;omega);have hcc:byteA s 0=by8 (bsL s) 0:=rfl;generalize hc:by8 (bsL s) 0=c at hcc;by_cases h6:(6:Int)<s.size
   ·simp[h6];refine hK _ _ _ ?_;clear K' hK;with_reducible refine aw_end ?_
    simp[numOk];exact .inr (.inl (by omega))
   ·have h6':(bsL s).length≤6:=(by omega);by_cases z1:(c.toNat:Int)=48
    ·have hc48:c=48:=u8_of (n:=48) z1 (by decide);by_cases z2:(1:Int)<s.size
     ·simp[h6,hpos,hcc,z1,z2];refine hK _ _ _ ?_;clear K' hK;with_reducible refine aw_end ?_
      have:¬bsL s=[48]:=fun h=>(by rw[h]at hl;simp at hl;omega);simp[numOk,hc,hc48,this]
     ·simp[h6,hpos,hcc,z1,z2];refine hK _ _ _ ?_;clear K' hK;with_reducible refine aw_end ?_
      have h1:(bsL s).length=1:=(by omega);obtain⟨x,hx⟩:=List.length_eq_one_iff.1 h1;have:bsL s=[48]:=by
       rw[hx]at hc⊢;have:x=c:=hc;rw[this,hc48]
      simp[numOk,hp,this];rw[this]at hp;exact hp
    ·have z1':¬c=48:=fun h=>z1 (by rw[h];rfl);simp[h6,hpos,hcc,z1];refine hK _ _ _ ?_;clear K' hK;with_reducible refine aw_end ?_
     simp[numOk,hp,hc,z1',h6']
 rintro u G nx ⟨u0,u22⟩;cases hok:numOk (bsL s)with
 | false=>
  rw[hok]at u22;with_reducible refine aX (by simp[u22]) ?_;refine aA ?_;refine aR fun K' hK=> ?_
  simp;refine hK _ _ _ ?_;clear K' hK;with_reducible refine aw_ret ?_
  simp[blockK,loopK,Post,resA,res1,expT,expA,exp1,expM,expL,okT,okA,ok1,rowOf,Tryz.f191];exact(hbad hok).symm
 | true=>
  rw[hok]at u22;have hok2:=hok;unfold numOk at hok2;rw[Bool.and_eq_true,Bool.and_eq_true]at hok2;obtain⟨hp,h6,_⟩:=hok2;have h6:(bsL s).length≤6:=of_decide_eq_true h6;rw[numP_eq,Bool.and_eq_true]at hp;have hfin:numR (bsL s)=numV (bsL s):=(by rw[numR,hok];rfl);rw[hfin];with_reducible refine aYk (by simp[u22]) ?_;refine aR fun K' hK=> ?_
  simp;refine hK _ _ _ ?_;clear K' hK;with_reducible refine aA ?_;refine aR fun K' hK=> ?_
  simp;refine hK _ _ _ ?_;clear K' hK;with_reducible refine aw_block ?_
  refine aw_loop (fun t G nx=>t 0=sV s∧∃i:Nat,t 4=iV i∧i≤s.size∧t 3=iV (numV ((bsL s).take i))) (fun s' _ _=>match s' 4 with | .v (.int _ n)=>s.size-n.toNat | _=>0) ?_ ?_
  ·exact⟨by simp[u0],0,by simp,by omega,by simp[numV]⟩
  ·rintro t G nx-⟨t0,i,t4,hi,t3⟩;have hw:IntKind.i64.wrap (↑i+1)=((i+1:Nat):Int):=wrapS (by omega);with_reducible refine aA ?_;refine aR fun K' hK=> ?_
   simp[t0,t4];refine hK _ _ _ ?_;clear K' hK;with_reducible refine aC fun A B hA hB=> ?_
   simp;refine⟨fun hi2=>hA ?_,fun hi2=>hB ?_⟩<;>clear hA hB A B<;>(try simp at hi2)<;>(try with_reducible refine aK ?_)
   ·have hcc:byteA s i=by8 (bsL s) i:=rfl;have hst:=numV_snoc (l:=bsL s) (i:=i) (by omega);have hnn:=numV_nn hp.1 i (by omega);have hpw:(10:Int)^i≤10^6:=by
     have:(10:Nat)^i≤10^6:=Nat.pow_le_pow_right (by decide) (by omega)
     exact_mod_cast this
    have hpw6:(10:Int)^6=1000000:=(by decide);have hd:digB (by8 (bsL s) i)=true:=(by rw[by8_get (by omega)];exact List.all_eq_true.1 hp.1 _ (List.getElem_mem _));generalize hc:by8 (bsL s) i=c at hcc hst hd;generalize numV ((bsL s).take i)=v at hst hnn t3;simp[digB]at hd;have w1:IntKind.u8.wrap ((c.toNat:Int)-48)=(c.toNat:Int)-48:=wrapU8 (by omega) (by omega);have w2:IntKind.i64.wrap ((c.toNat:Int)-48)=(c.toNat:Int)-48:=wrap64 (by omega) (by omega);have w3:IntKind.i64.wrap (10*v)=10*v:=wrap64 (by omega) (by omega);have w4:IntKind.i64.wrap (10*v+((c.toNat:Int)-48))=10*v+((c.toNat:Int)-48):=wrap64 (by omega) (by omega);with_reducible refine aw_block ?_;refine aS fun K' hK=> ?_
    simp[t0,t3,t4,hi2,hcc,w1,w2,w3,w4];refine hK _ _ _ ?_;clear K' hK;with_reducible refine aw_skipL ?_
    refine blockK_normal ?_;with_reducible refine aS fun K' hK=> ?_
    simp[t4,hw];refine hK _ _ _ ?_;clear K' hK;refine aw_skipL (loopK_normal ?_ ?_)
    ·exact⟨by simp[t0],i+1,by simp[hw],by omega,by rw[hst];simp[w1,w2,w3,w4]⟩
    ·simp[t4,hw];omega
   ·skip;with_reducible refine aw_exit ?_
    refine loopK_exit (blockK_exit ?_);have:i=(bsL s).length:=(by omega);subst this;rw[List.take_length]at t3;with_reducible refine aR fun K' hK=> ?_
    simp[t3];refine hK _ _ _ ?_;clear K' hK;with_reducible refine aw_retL ?_
    simp[blockK,loopK,Post,resA,res1,expT,expA,exp1,expM,expL,okT,okA,ok1,rowOf,Tryz.f191]
theorem part_all:∀i:_root_.Fin 256,partB (UInt8.ofNat i)= !((decide (((UInt8.ofNat i).toNat:Int)<97) || decide ((122:Int)<((UInt8.ofNat i).toNat:Int)))&&((decide (((UInt8.ofNat i).toNat:Int)<65) || decide ((90:Int)<((UInt8.ofNat i).toNat:Int)))&&((decide (((UInt8.ofNat i).toNat:Int)<48) || decide ((57:Int)<((UInt8.ofNat i).toNat:Int)))&& !decide (((UInt8.ofNat i).toNat:Int)=45)))):=by decide+kernel
theorem part_tab (c:UInt8):partB c= !((decide ((c.toNat:Int)<97) || decide ((122:Int)<(c.toNat:Int)))&&((decide ((c.toNat:Int)<65) || decide ((90:Int)<(c.toNat:Int)))&&((decide ((c.toNat:Int)<48) || decide ((57:Int)<(c.toNat:Int)))&& !decide ((c.toNat:Int)=45)))):=by
 have:=part_all ⟨c.toNat,c.toNat_lt⟩
 rwa [UInt8.ofNat_toNat]at this
theorem num_le {l:List UInt8} :(numP l==numOk l)=(!numP l || numOk l):=by
 cases h:numOk l with
 | false=>simp
 | true=>
  have hp:numP l=true:=by
   unfold numOk at h;rw[Bool.and_eq_true]at h;exact h.1
  simp[hp]
theorem part59_ok (s:Bs) (hs:s.size≤4611686018427387904):CallsOK Tryz.prog 154 [sV s] (bV (partF (bsL s))) []:=by
 refine callsOK mixed Tryz.call154 Tryz.func154 rfl (by rw[Tryz.ntmps154];simp) ?_ rfl;rw[Tryz.ntmps154];have hl:(bsL s).length=s.size:=bsL_len s;with_reducible refine aR fun K' hK=> ?_
 simp;refine hK _ _ _ ?_;clear K' hK;by_cases h1:(s.size:Int)<1
 ·with_reducible refine aA ?_;refine aR fun K' hK=> ?_
  simp[h1];refine hK _ _ _ ?_;clear K' hK;with_reducible refine aX (by simp) ?_;refine aA ?_;refine aR fun K' hK=> ?_
  simp;refine hK _ _ _ ?_;clear K' hK;with_reducible refine aw_ret ?_
  simp[blockK,loopK,Post,resA,res1,expT,expA,exp1,expM,expL,okT,okA,ok1,rowOf,Tryz.f154];have:bsL s=[]:=List.eq_nil_of_length_eq_zero (by omega);simp[partF,this]
 by_cases h10:(10:Int)<s.size
 ·with_reducible refine aA ?_;refine aR fun K' hK=> ?_
  simp[h1,h10];refine hK _ _ _ ?_;clear K' hK;with_reducible refine aX (by simp) ?_;refine aA ?_;refine aR fun K' hK=> ?_
  simp;refine hK _ _ _ ?_;clear K' hK;with_reducible refine aw_ret ?_
  simp[blockK,loopK,Post,resA,res1,expT,expA,exp1,expM,expL,okT,okA,ok1,rowOf,Tryz.f154];have:¬(bsL s).length≤10:=(by omega);simp[partF,this]
 have hne:¬bsL s=[]:=fun h=>(by rw[h]at hl;simp at hl;omega);have hle:(bsL s).length≤10:=(by omega);with_reducible refine aA ?_;refine aR fun K' hK=> ?_
 simp[h1,h10];refine hK _ _ _ ?_;clear K' hK;with_reducible refine aYk (by simp) ?_;refine aA ?_;refine aR fun K' hK=> ?_
 simp;refine hK _ _ _ ?_;clear K' hK;with_reducible refine aw_block ?_
 refine aw_loop (fun t G nx=>t 0=sV s∧∃i:Nat,t 3=iV i∧i≤s.size∧(List.range i).all (fun i=>partB (by8 (bsL s) i))=true) (fun s' _ _=>match s' 3 with | .v (.int _ n)=>s.size-n.toNat | _=>0) ?_ ?_
 ·exact⟨by simp,0,by simp,by omega,by simp⟩
 ·rintro t G nx-⟨t0,i,t3,hi,ht⟩;have hw:IntKind.i64.wrap (↑i+1)=((i+1:Nat):Int):=wrapS (by omega);with_reducible refine aA ?_;refine aR fun K' hK=> ?_
  simp[t0,t3];refine hK _ _ _ ?_;clear K' hK;with_reducible refine aC fun A B hA hB=> ?_
  simp;refine⟨fun hi2=>hA ?_,fun hi2=>hB ?_⟩<;>clear hA hB A B<;>(try simp at hi2)<;>(try with_reducible refine aK ?_)
  ·skip;with_reducible refine aw_block ?_
   have hcc:byteA s i=by8 (bsL s) i:=rfl;generalize hc:by8 (bsL s) i=c at hcc;with_reducible refine aR fun K' hK=> ?_
   simp[t0,t3,hi2,hcc];refine hK _ _ _ ?_;clear K' hK;refine aw_cut (fun t' G' nx'=>t' 0=sV s∧t' 3=iV i∧t' 47=bV (!partB c)) ?_ ?_
   ·by_cases a1:(c.toNat:Int)<97
    ·by_cases a3:(c.toNat:Int)<65
     ·by_cases a5:(c.toNat:Int)<48
      ·by_cases a7:(c.toNat:Int)=45
       ·skip;with_reducible refine aS fun K' hK=> ?_
        simp[a1,a3,a5,a7];refine hK _ _ _ ?_;clear K' hK;with_reducible refine aw_end ?_
        simp[t0,t3,part_tab,a1,a3,a5,a7]
       ·skip;with_reducible refine aS fun K' hK=> ?_
        simp[a1,a3,a5,a7];refine hK _ _ _ ?_;clear K' hK;with_reducible refine aw_end ?_
        simp[t0,t3,part_tab,a1,a3,a5,a7]
      ·by_cases a6:(57:Int)<c.toNat
       ·have a7:¬(c.toNat:Int)=45:=(by omega);with_reducible refine aS fun K' hK=> ?_
        simp[a1,a3,a5,a6,a7];refine hK _ _ _ ?_;clear K' hK;with_reducible refine aw_end ?_
        simp[t0,t3,part_tab,a1,a3,a5,a6,a7]
       ·skip;with_reducible refine aS fun K' hK=> ?_
        simp[a1,a3,a5,a6];refine hK _ _ _ ?_;clear K' hK;with_reducible refine aw_end ?_
        simp[t0,t3,part_tab,a1,a3,a5,a6]
     ·by_cases a4:(90:Int)<c.toNat
      ·have a5:¬(c.toNat:Int)<48:=(by omega);have a6:(57:Int)<c.toNat:=(by omega);have a7:¬(c.toNat:Int)=45:=(by omega);with_reducible refine aS fun K' hK=> ?_
       simp[a1,a3,a4,a5,a6,a7];refine hK _ _ _ ?_;clear K' hK;with_reducible refine aw_end ?_
       simp[t0,t3,part_tab,a1,a3,a4,a5,a6,a7]
      ·skip;with_reducible refine aS fun K' hK=> ?_
       simp[a1,a3,a4];refine hK _ _ _ ?_;clear K' hK;with_reducible refine aw_end ?_
       simp[t0,t3,part_tab,a1,a3,a4]
    ·by_cases a2:(122:Int)<c.toNat
     ·have a3:¬(c.toNat:Int)<65:=(by omega);have a4:(90:Int)<c.toNat:=(by omega);have a5:¬(c.toNat:Int)<48:=(by omega);have a6:(57:Int)<c.toNat:=(by omega);have a7:¬(c.toNat:Int)=45:=(by omega);with_reducible refine aS fun K' hK=> ?_
      simp[a1,a2,a3,a4,a5,a6,a7];refine hK _ _ _ ?_;clear K' hK;with_reducible refine aw_end ?_
      simp[t0,t3,part_tab,a1,a2,a3,a4,a5,a6,a7]
     ·skip;with_reducible refine aS fun K' hK=> ?_
      simp[a1,a2];refine hK _ _ _ ?_;clear K' hK;with_reducible refine aw_end ?_
      simp[t0,t3,part_tab,a1,a2]
   rintro u G' nx' ⟨u0,u3,u47⟩;cases hp:partB c with
   | true=>
    rw[hp]at u47;with_reducible refine aVk (by simp[u47]) ?_;refine aw_skipL ?_
    refine blockK_normal ?_;with_reducible refine aS fun K' hK=> ?_
    simp[u3,hw];refine hK _ _ _ ?_;clear K' hK;refine aw_skipL (loopK_normal ?_ ?_)
    ·exact⟨by simp[u0],i+1,by simp[hw],by omega,by rw[range_all,ht,hc,hp];rfl⟩
    ·simp[t3,hw];omega
   | false=>
    rw[hp]at u47;with_reducible refine aU (by simp[u47]) ?_;refine aA ?_;refine aR fun K' hK=> ?_
    simp;refine hK _ _ _ ?_;clear K' hK;with_reducible refine aw_ret ?_
    simp[blockK,loopK,Post,resA,res1,expT,expA,exp1,expM,expL,okT,okA,ok1,rowOf,Tryz.f154];rw[partF,range_false (i:=i) (by omega) (by rw[hc];exact hp)];simp
  ·skip;with_reducible refine aw_exit ?_
   refine loopK_exit (blockK_exit ?_);have:i=(bsL s).length:=(by omega);subst this;have hfin:partF (bsL s)=(!numP (bsL s) || numOk (bsL s)):=(by rw[partF,ht,num_le];simp[hne,hle]);rw[hfin];with_reducible refine aR fun K' hK=> ?_
   simp[t0];refine acall_flat (digits70_ok s hs) rfl (by first | rfl | (simp;done) | (simp;rfl) | (simp;exact⟨rfl,rfl⟩)) ?_;cases hp:numP (bsL s)with
   | false=>
    simp;refine hK _ _ _ ?_;clear K' hK;with_reducible refine aw_retL ?_
    simp[blockK,loopK,Post,resA,res1,expT,expA,exp1,expM,expL,okT,okA,ok1,rowOf,Tryz.f154];exact .inl hp
   | true=>
    have hnn:=numR_nn (l:=bsL s);simp[t0];refine acall_flat (number71_ok s hs) rfl (by first | rfl | (simp;done) | (simp;rfl) | (simp;exact⟨rfl,rfl⟩)) ?_;simp[hnn];refine hK _ _ _ ?_;clear K' hK;with_reducible refine aw_retL ?_
    simp[blockK,loopK,Post,resA,res1,expT,expA,exp1,expM,expL,okT,okA,ok1,rowOf,Tryz.f154];intro h;rw[hp]at h;cases h
set_option maxRecDepth 100000
set_option maxHeartbeats 1000000
def spl:List UInt8→List (List UInt8)
 | []=>[[]]
 | b::l=>if b=46 then[]::spl l else match spl l with
  | []=>[[b]]
  | p::ps=>(b::p)::ps
theorem spl_ne:∀l:List UInt8,spl l≠[]
 | []=>by simp[spl]
 | b::l=>by
  rw[spl];split
  ·simp
  ·cases spl l<;>simp
theorem spl_out:∀ {a:List UInt8},(46:UInt8)∉a→spl a=[a]
 | [],_=>rfl
 | b::a,h=>by
  have h1:¬b=46:=fun e=>h (by simp[e]);rw[spl,if_neg h1,spl_out (a:=a) (fun e=>h (List.mem_cons_of_mem _ e))]
theorem spl_in:∀ {a r:List UInt8},(46:UInt8)∉a→spl (a++46::r)=a::spl r
 | [],r,_=>by simp[spl]
 | b::a,r,h=>by
  have h1:¬b=46:=fun e=>h (by simp[e]);rw[List.cons_append,spl,if_neg h1,spl_in (a:=a) (fun e=>h (List.mem_cons_of_mem _ e))]
theorem dot_spl:∀(k:Nat) (l:List UInt8),dotOk k l=(decide ((spl l).length≤k)&&(spl l).all partF)
 | 0,l=>by
  have:=List.length_pos_iff.2 (spl_ne l);rw[dotOk];have h:¬(spl l).length≤0:=(by omega);simp[h]
 | k+1,l=>by
  rw[dotOk];by_cases hm:(46:UInt8)∈l
  ·obtain⟨a,r,h1,rfl⟩:=first_at hm;rw[ib_in h1,if_neg (by omega),spl_in h1,Int.toNat_natCast,List.take_left',show(a++46::r).drop (a.length+1)=r by simp,dot_spl k r]
   ·simp only[List.length_cons,List.all_cons,Nat.add_le_add_iff_right];cases partF a<;>simp
   ·rfl
  ·rw[ib_out hm,if_pos (by omega),spl_out hm];simp
theorem drop_at {l:List UInt8} {f i:Nat} (hf:f≤i) (hi:i<l.length) (h:by8 l i=46):l.drop f=((l.take i).drop f)++46::l.drop (i+1):=by
 have e:l=l.take i++46::l.drop (i+1):=by
  rw[←h,by8_get hi,List.getElem_cons_drop];simp
 conv=>lhs;rw[e]
 rw[List.drop_append_of_le_length (by rw[List.length_take];omega)]
theorem no_at {l:List UInt8} {f i:Nat} (hi:i≤l.length) (h:∀j,f≤j→j<i→by8 l j≠46):(46:UInt8)∉(l.take i).drop f:=by
 intro hm;obtain⟨j,hj,he⟩:=List.mem_iff_getElem.1 hm;rw[List.length_drop,List.length_take]at hj;rw[List.getElem_drop,List.getElem_take]at he;exact h (f+j) (by omega) (by omega) (by rw[by8_get (by omega),he])
def CutAt (l:List UInt8) (out:List (List UInt8)) (f i:Nat):Prop:=
 (i≤l.length∧f≤i∧(∀j,f≤j→j<i→by8 l j≠46)∧out++spl (l.drop f)=spl l∧out.length≤f)∨(i=l.length+1∧out=spl l∧f≤i)
theorem cut_step {l:List UInt8} {out:List (List UInt8)} {f i:Nat} (h:CutAt l out f i) (hi:i≤l.length):f≤i∧out.length≤f∧
  ((i<l.length∧by8 l i≠46→CutAt l out f (i+1))∧(¬(i<l.length∧by8 l i≠46)→CutAt l (out++[(l.take i).drop f]) (i+1) (i+1))):=by
 rcases h with⟨_,h2,h3,h4,h5⟩ | ⟨h,_⟩
 ·refine⟨h2,h5,fun⟨q1,q2⟩=> .inl ⟨by omega,by omega,fun j a b=> ?_,h4,h5⟩,fun hq=> ?_⟩
  ·rcases Nat.lt_or_ge j i with h | h
   ·exact h3 j a h
   ·have:j=i:=(by omega);subst this;exact q2
  ·rcases Nat.lt_or_ge i l.length with hl | hl
   ·have h46:by8 l i=46:=Decidable.not_not.1 fun h=>hq ⟨hl,h⟩;refine .inl ⟨by omega,Nat.le_refl _,fun j a b=>by omega,?_,by simp;omega⟩;rw[drop_at h2 hl h46,spl_in (no_at hi h3)]at h4;rw[←h4];simp
   ·have:i=l.length:=(by omega);subst this;refine .inr ⟨rfl,?_,Nat.le_refl _⟩;have hno:=no_at hi h3;rw[List.take_length]at hno⊢;rw[spl_out hno]at h4;exact h4
 ·omega
def strs (L:List (List UInt8)):List Bs:=L.map ofL
theorem strs_snoc {L:List (List UInt8)} {x:List UInt8} :strs (L++[x])=strs L++[ofL x]:=by simp[strs]
theorem cut58_ok (s:Bs) (hs:s.size≤4000000000):CallsOK Tryz.prog 153 [sV s,.v (.int .u8 46)] (.row 0 (strs (spl (bsL s))).length) [(9,flat sC (strs (spl (bsL s))))]:=by
 refine callsOK mixed Tryz.call153 Tryz.func153 rfl (by rw[Tryz.ntmps153];simp) ?_ rfl;rw[Tryz.ntmps153];have hl:(bsL s).length=s.size:=bsL_len s;with_reducible refine aR fun K' hK=> ?_
 simp;refine hK _ _ _ ?_;clear K' hK;with_reducible refine aR fun K' hK=> ?_
 simp;refine hK _ _ _ ?_;clear K' hK;with_reducible refine aR fun K' hK=> ?_
 simp;refine hK _ _ _ ?_;clear K' hK;with_reducible refine aA ?_;refine aR fun K' hK=> ?_
 simp;refine hK _ _ _ ?_;clear K' hK;with_reducible refine aw_block ?_
 refine aw_loop (fun t G nx=>t 0=sV s∧t 1=.v (.int .u8 46)∧∃(i f:Nat) (out:List (List UInt8)),t 7=iV i∧t 6=iV f∧CutAt (bsL s) out f i∧∃r,t 5=.row r (strs out).length∧G r=some (.row 9 (flat sC (strs out)))∧r<nx) (fun s' _ _=>match s' 7 with | .v (.int _ n)=>s.size+1-n.toNat | _=>0) ?_ ?_
 ·exact⟨by simp,by simp,0,0,[],by simp,by simp,.inl ⟨by omega,by omega,fun j a b=>by omega,by simp,by simp⟩,1,by simp[strs],by simp[strs],by omega⟩
 ·rintro t G nx-⟨t0,t1,i,f,out,t7,t6,hcut,r,t5,hr,hrn⟩;have hw:IntKind.i64.wrap (↑i+1)=((i+1:Nat):Int):=wrapS (by rcases hcut with h | h<;>omega);with_reducible refine aA ?_;refine aR fun K' hK=> ?_
  simp[t0,t7];refine hK _ _ _ ?_;clear K' hK;with_reducible refine aC fun A B hA hB=> ?_
  simp;refine⟨fun hi2=>hA ?_,fun hi2=>hB ?_⟩<;>clear hA hB A B<;>(try simp at hi2)<;>(try with_reducible refine aK ?_)
  ·obtain⟨hfi,hof,hno,hyes⟩:=cut_step hcut (by omega);with_reducible refine aw_block ?_
   refine aw_cut (fun u H ny=>H r=some (.row 9 (flat sC (strs out)))∧r<ny∧u 0=sV s∧u 1=.v (.int .u8 46)∧u 5=.row r (strs out).length∧u 6=iV f∧u 7=iV i∧u 24=bV (!decide (i<(bsL s).length∧by8 (bsL s) i≠46))) ?_ ?_
   ·by_cases he:i=s.size
    ·have he':((i:Nat):Int)=s.size:=(by omega);have hn:¬i<(bsL s).length:=(by omega);with_reducible refine aS fun K' hK=> ?_
     simp[t0,t7,he,he'];refine hK _ _ _ ?_;clear K' hK;with_reducible refine aw_end ?_
     simp[hr,hrn,t0,t1,t5,t6,t7,he,hl]
    ·have he':¬((i:Nat):Int)=s.size:=(by omega);have hi3:i<s.size:=(by omega);have hcc:byteA s i=by8 (bsL s) i:=rfl;generalize hc:by8 (bsL s) i=c at hcc;by_cases h46:(c.toNat:Int)=46
     ·have h46':c=46:=u8_of (n:=46) h46 (by decide);with_reducible refine aS fun K' hK=> ?_
      simp[t0,t1,t7,he,he',hi3,hcc,h46];refine hK _ _ _ ?_;clear K' hK;with_reducible refine aw_end ?_
      simp[hr,hrn,t0,t1,t5,t6,t7,hl,hi3,h46']
     ·have h46':¬c=46:=fun h=>h46 (by rw[h];rfl);with_reducible refine aS fun K' hK=> ?_
      simp[t0,t1,t7,he,he',hi3,hcc,h46];refine hK _ _ _ ?_;clear K' hK;with_reducible refine aw_end ?_
      simp[hr,hrn,t0,t1,t5,t6,t7,hl,hi3,h46']
   rintro u H nx ⟨hr,hrn,u0,u1,u5,u6,u7,u24⟩;by_cases hq:i<(bsL s).length∧by8 (bsL s) i≠46
   ·have hb:(!decide (i<(bsL s).length∧by8 (bsL s) i≠46))=false:=(by simp[hq]);rw[hb]at u24;with_reducible refine aVk (by simp[u24]) ?_;refine aw_skipL ?_
    refine blockK_normal ?_;with_reducible refine aS fun K' hK=> ?_
    simp[u7,hw];refine hK _ _ _ ?_;clear K' hK;refine aw_skipL (loopK_normal ?_ ?_)
    ·exact⟨by simp[u0],by simp[u1],i+1,f,out,by simp[hw],by simp[u6],hno hq,r,by simp[u5],hr,hrn⟩
    ·simp[t7,hw];omega
   ·have hb:(!decide (i<(bsL s).length∧by8 (bsL s) i≠46))=true:=(by simp only[hq];rfl);rw[hb]at u24;have hnew:=hyes hq;have hsl:s.extract f i=ofL (((bsL s).take i).drop f):=(by apply bsL_inj;rw[bsL_ofL,bsL_ext]);have i1:i≤s.size:=(by omega);have hlo:(strs out).length≤f:=(by simpa [strs]using hof);have b1:(strs out).length+1≤9223372036854775807:=(by omega);have b2:((strs out).length+1)*16≤140737488355328:=(by omega);have n1:¬r=nx:=(by omega);with_reducible refine aU (by simp[u24]) ?_;refine aA ?_;refine aR fun K' hK=> ?_
    simp[u5,u0,u6,u7,bnd_some,hfi,i1,hr,b1,b2,n1,treeOf_row,srcOf_row];refine hK _ _ _ ?_;clear K' hK;with_reducible refine aR fun K' hK=> ?_
    simp[u7,hw];refine hK _ _ _ ?_;clear K' hK;with_reducible refine aw_skipL ?_
    refine blockK_normal ?_;with_reducible refine aS fun K' hK=> ?_
    simp[u7,hw];refine hK _ _ _ ?_;clear K' hK;refine aw_skipL (loopK_normal ?_ ?_)
    ·refine⟨by simp[u0],by simp[u1],i+1,i+1,_,by simp[hw],by simp[hw],hnew,nx+1,by simp[strs_snoc],?_,by omega⟩;rw[strs_snoc,←hsl,Hp.upd_self,←flat_app];rfl
    ·simp[t7,hw];omega
  ·skip;with_reducible refine aw_exit ?_
   refine loopK_exit (blockK_exit ?_);have hout:out=spl (bsL s):=by
    rcases hcut with h | h
    ·omega
    ·exact h.2.1
   subst hout;with_reducible refine aR fun K' hK=> ?_
   simp[t5];refine hK _ _ _ ?_;clear K' hK;with_reducible refine aw_retL ?_
   simp[blockK,loopK,Post,resA,res1,expT,expA,exp1,expM,expL,okT,okA,ok1,rowOf,Tryz.f153,hr]
theorem spl_len:∀(l:List UInt8),∀x∈spl l,x.length≤l.length
 | [],x,h=>by simp[spl]at h;simp[h]
 | b::l,x,h=>by
  have ih:=spl_len l;rw[spl]at h;split at h
  ·rcases List.mem_cons.1 h with rfl | h
   ·simp
   ·have:=ih x h;simp;omega
  ·cases hs:spl l with
   | nil=>exact absurd hs (spl_ne l)
   | cons p ps=>
    rw[hs]at h ih;rcases List.mem_cons.1 h with rfl | h
    ·have:=ih p (by simp);simp;omega
    ·have:=ih x (List.mem_cons_of_mem _ h);simp;omega
theorem spl_count:∀(l:List UInt8),(spl l).length≤l.length+1
 | []=>by simp[spl]
 | b::l=>by
  have ih:=spl_count l;rw[spl];split
  ·simp;omega
  ·cases hs:spl l with
   | nil=>simp
   | cons p ps=>
    rw[hs]at ih;simp at ih⊢;omega
theorem strs_nth {L:List (List UInt8)} {i:Nat} (h:i<L.length):nth (strs L) i=ofL (nth L i):=by
 rw[nth_eq (by simpa [strs]using h),nth_eq h];simp[strs]
theorem strs_len {L:List (List UInt8)} :(strs L).length=L.length:=by simp[strs]
theorem right37_ok (v:Ver) (hs:v.pre.size≤4000000000):CallsOK Tryz.prog 101 [.agg v.cells] (bV (verOk v)) []:=by
 refine callsOK mixed Tryz.call101 Tryz.func101 rfl (by rw[Tryz.ntmps101];simp) ?_ rfl;rw[Tryz.ntmps101];have hl:(bsL v.pre).length=v.pre.size:=bsL_len v.pre;with_reducible refine aR fun K' hK=> ?_
 simp;refine hK _ _ _ ?_;clear K' hK;with_reducible refine aA ?_;refine aR fun K' hK=> ?_
 simp;refine acall_flat (may57_ok v.maj) rfl (by first | rfl | (simp;done) | (simp;rfl) | (simp;exact⟨rfl,rfl⟩)) ?_;cases h1:inR v.maj with
 | false=>
  simp;refine hK _ _ _ ?_;clear K' hK;with_reducible refine aX (by simp) ?_;refine aA ?_;refine aR fun K' hK=> ?_
  simp;refine hK _ _ _ ?_;clear K' hK;with_reducible refine aw_ret ?_
  simp[blockK,loopK,Post,resA,res1,expT,expA,exp1,expM,expL,okT,okA,ok1,rowOf,Tryz.f101];simp[verOk,h1]
 | true=>
 simp;refine acall_flat (may57_ok v.min) rfl (by first | rfl | (simp;done) | (simp;rfl) | (simp;exact⟨rfl,rfl⟩)) ?_;cases h2:inR v.min with
 | false=>
  simp;refine hK _ _ _ ?_;clear K' hK;with_reducible refine aX (by simp) ?_;refine aA ?_;refine aR fun K' hK=> ?_
  simp;refine hK _ _ _ ?_;clear K' hK;with_reducible refine aw_ret ?_
  simp[blockK,loopK,Post,resA,res1,expT,expA,exp1,expM,expL,okT,okA,ok1,rowOf,Tryz.f101];simp[verOk,h2]
 | true=>
 simp;refine acall_flat (may57_ok v.pat) rfl (by first | rfl | (simp;done) | (simp;rfl) | (simp;exact⟨rfl,rfl⟩)) ?_;cases h3:inR v.pat with
 | false=>
  simp;refine hK _ _ _ ?_;clear K' hK;with_reducible refine aX (by simp) ?_;refine aA ?_;refine aR fun K' hK=> ?_
  simp;refine hK _ _ _ ?_;clear K' hK;with_reducible refine aw_ret ?_
  simp[blockK,loopK,Post,resA,res1,expT,expA,exp1,expM,expL,okT,okA,ok1,rowOf,Tryz.f101];simp[verOk,h3]
 | true=>
 simp;refine hK _ _ _ ?_;clear K' hK;with_reducible refine aYk (by simp) ?_
 by_cases he:v.pre=⟨#[]⟩
 ·with_reducible refine aA ?_;refine aR fun K' hK=> ?_
  simp[he];refine hK _ _ _ ?_;clear K' hK;with_reducible refine aX (by simp) ?_;refine aA ?_;refine aR fun K' hK=> ?_
  simp;refine hK _ _ _ ?_;clear K' hK;with_reducible refine aw_ret ?_
  simp[blockK,loopK,Post,resA,res1,expT,expA,exp1,expM,expL,okT,okA,ok1,rowOf,Tryz.f101];simp[verOk,h1,h2,h3,preOk,he,bsL_empty]
 ·have hne:¬bsL v.pre=[]:=fun h=>he ((empty_iff _).2 h);have hfin:verOk v=(decide ((spl (bsL v.pre)).length≤5)&&(spl (bsL v.pre)).all partF):=by
   rw[verOk,preOk,h1,h2,h3,dot_spl];simp[hne]
  rw[hfin];with_reducible refine aA ?_;refine aR fun K' hK=> ?_
  simp[he];refine hK _ _ _ ?_;clear K' hK;with_reducible refine aYk (by simp) ?_;refine aR fun K' hK=> ?_
  simp;refine acall_new (cut58_ok v.pre hs) (by first | rfl | (simp;done) | (simp;rfl) | (simp;exact⟨rfl,rfl⟩)) ?_;simp[addJ_one];refine hK _ _ _ ?_;clear K' hK;with_reducible refine aA ?_;refine aR fun K' hK=> ?_
  simp;refine hK _ _ _ ?_;clear K' hK;have hsl:=spl_len (bsL v.pre);have hsc:=spl_count (bsL v.pre);generalize spl (bsL v.pre)=L at hsl hsc;have hLl:(strs L).length=L.length:=strs_len;refine aw_gen (fun s G nx=>s 3=.row 1 (strs L).length∧s 4=iV 0∧G 1=some (.row 9 (flat sC (strs L)))) ?_ ?_
  ·simp
  rintro s G nx ⟨s3,s4,g1⟩;with_reducible refine aw_block ?_
  refine aw_loop (fun s G nx=>s 3=.row 1 (strs L).length∧G 1=some (.row 9 (flat sC (strs L)))∧∃i:Nat,s 4=iV i∧i≤(strs L).length∧(L.take i).all partF=true) (fun s _ _=>match s 4 with | .v (.int _ n)=>(strs L).length-n.toNat | _=>0) ?_ ?_
  ·exact⟨s3,g1,0,by simp[s4],by omega,by simp⟩
  ·rintro s G nx-⟨s3,g1,i,s4,hi,hall⟩;with_reducible refine aA ?_;refine aR fun K' hK=> ?_
   simp[s3,s4,g1];refine hK _ _ _ ?_;clear K' hK;with_reducible refine aC fun A B hA hB=> ?_
   simp;refine⟨fun hi2=>hA ?_,fun hi2=>hB ?_⟩<;>clear hA hB A B<;>(try simp at hi2)<;>(try with_reducible refine aK ?_)
   ·have hi3:i<L.length:=(by omega);have hw:IntKind.i64.wrap (↑i+1)=((i+1:Nat):Int):=wrapS (by omega);have hst:=all_take1 (p:=partF) hi3;rw[hall,Bool.true_and]at hst;have hmem:=hsl _ (nth_mem hi3);have hpp:=part59_ok (nth (strs L) i) (by rw[strs_nth hi3,ofL_size];omega);rw[strs_nth hi3,bsL_ofL]at hpp;with_reducible refine aw_block ?_;refine aR fun K' hK=> ?_
    simp[s3,s4,g1,hi2,strs_nth hi3];refine acall_flat hpp rfl (by first | rfl | (simp;done) | (simp;rfl) | (simp;exact⟨rfl,rfl⟩)) ?_;cases hp:partF (nth L i)with
    | true=>
     rw[hp]at hst;simp;refine hK _ _ _ ?_;clear K' hK;with_reducible refine aVk (by simp) ?_;refine aw_skipL ?_
     refine blockK_normal ?_;with_reducible refine aS fun K' hK=> ?_
     simp[s4,hw];refine hK _ _ _ ?_;clear K' hK;refine aw_skipL (loopK_normal ?_ ?_)
     ·exact⟨by simp[s3],g1,i+1,by simp[hw],by omega,hst⟩
     ·simp[s4,hw];omega
    | false=>
     simp;refine hK _ _ _ ?_;clear K' hK;with_reducible refine aU (by simp) ?_;refine aA ?_;refine aR fun K' hK=> ?_
     simp;refine hK _ _ _ ?_;clear K' hK;with_reducible refine aw_ret ?_
     simp[blockK,loopK,Post,resA,res1,expT,expA,exp1,expM,expL,okT,okA,ok1,rowOf,Tryz.f101];intro _;exact⟨_,nth_mem hi3,hp⟩
   ·skip;with_reducible refine aw_exit ?_
    refine loopK_exit (blockK_exit ?_);have:i=L.length:=(by omega);subst this;rw[List.take_length]at hall;with_reducible refine aR fun K' hK=> ?_
    simp[s3,g1];refine hK _ _ _ ?_;clear K' hK;with_reducible refine aw_retL ?_
    simp[blockK,loopK,Post,resA,res1,expT,expA,exp1,expM,expL,okT,okA,ok1,rowOf,Tryz.f101];simp[hall,hLl];omega
set_option maxRecDepth 100000
set_option maxHeartbeats 1000000
def Pre (t:List Pl) (n:Nat):Prop:=parN t 0= -1∧∀j,1≤j→j≤n→0≤parN t j∧parN t j<j
theorem Pre.dn {t:List Pl} {n:Nat} (h:Pre t n):∀j,j≤n→parN t j<j:=by
 intro j hj;rcases Nat.eq_zero_or_pos j with rfl | h1
 ·rw[h.1];omega
 ·exact(h.2 j h1 hj).2
theorem Pre.le {t:List Pl} {n m:Nat} (h:Pre t n) (hm:m≤n):Pre t m:=⟨h.1,fun j a b=>h.2 j a (by omega)⟩
theorem upF_eqL {t:List Pl} {n:Nat} (hd:∀j,j≤n→parN t j<j):∀(m k i:Nat),i<k→i<m→i≤n→upF t k i=upN t i
 | 0,k,i,_,h,_=>by omega
 | m+1,0,i,h,_,_=>by omega
 | m+1,k+1,i,hk,hm,hi=>by
  have:=hd i hi;unfold upN;rw[upF,upF];by_cases hp:parN t i<0
  ·rw[if_pos hp,if_pos hp]
  ·rw[if_neg hp,if_neg hp,upF_eqL hd m k _ (by omega) (by omega) (by omega),upF_eqL hd m i _ (by omega) (by omega) (by omega)]
theorem up_stepL {t:List Pl} {n:Nat} (h:Pre t n) {i:Nat} (hi:i≤n):upN t i=i::(if parN t i<0 then[]else upN t (parN t i).toNat):=by
 have:=h.dn i hi
 conv=>lhs;unfold upN
 rw[upF];by_cases hp:parN t i<0
 ·rw[if_pos hp,if_pos hp]
 ·rw[if_neg hp,if_neg hp,upF_eqL h.dn (i+1) i _ (by omega) (by omega) (by omega)]
theorem dD_valL {t:List Pl} {n:Nat} (hn:n<t.length) (h:Pre t n):∀i,i≤n→∀j,j≤i→nth (dD t i) j+1=((upN t j).length:Int)
 | 0,hi,j,hj=>by
  have:j=0:=(by omega);subst this;rw[up_zero h.1,dD,nth_eq (by simp;omega)];simp
 | i+1,hi,j,hj=>by
  have ih:=dD_valL hn h i (by omega);rw[dD,nth_setG (by rw[dD_len];omega),nth_tail (by omega)];by_cases hj2:j=i+1
  ·subst hj2;obtain⟨h1,h2⟩:=h.2 (i+1) (by omega) hi;have hq:(nth t (i+1)).par=parN t (i+1):=rfl;rw[if_pos rfl,hq,ih _ (by omega),up_stepL h hi,if_neg (by omega)];simp
  ·rw[if_neg hj2];exact ih j (by omega)
theorem okAt_iffL {t:List Pl} {i:Nat} (h:i+1<t.length) (hp:Pre t i):okAt t i=true↔(0≤parN t (i+1)∧parN t (i+1)≤i)∧rightF (nth t (i+1)).name (nth t (i+1)).ver=true∧
  (∀j,1≤j→j≤i→parN t j=parN t (i+1)→(nth t j).name=(nth t (i+1)).name→False)∧heightN t (i+1)≤12:=by
 rw[okAt_iff h];constructor
 ·rintro⟨a,b,c,d⟩;have hp':Pre t (i+1):=⟨hp.1,fun j h1 h2=>by
   rcases Nat.lt_or_ge i j with h | h
   ·have:j=i+1:=(by omega);subst this;omega
   ·exact hp.2 j h1 h⟩
  rw[dD_valL (by omega) hp i (Nat.le_refl _) _ (by omega)]at d;refine⟨a,b,c,?_⟩;unfold heightN;rw[up_stepL hp' (Nat.le_refl _),if_neg (by omega)];simp;omega
 ·rintro⟨a,b,c,d⟩;have hp':Pre t (i+1):=⟨hp.1,fun j h1 h2=>by
   rcases Nat.lt_or_ge i j with h | h
   ·have:j=i+1:=(by omega);subst this;omega
   ·exact hp.2 j h1 h⟩
  refine⟨a,b,c,?_⟩;rw[dD_valL (by omega) hp i (Nat.le_refl _) _ (by omega)];unfold heightN at d;rw[up_stepL hp' (Nat.le_refl _),if_neg (by omega)]at d;simp at d;omega
theorem Good.pre {t:List Pl} (g:Good t) {n:Nat} (hn:n<t.length):Pre t n:=⟨root_par g.root,fun j h1 h2=>g.par j h1 (by omega)⟩
def chR (t:List Pl) (m:Nat) (p:Int) (b:Bs):Int:=match (List.range m).find? (fun i=>decide (1≤i)&&chP p b (nth t i))with
 | some i=>i
 | none=> -1
theorem find_range {q:Nat→Bool} {i:Nat} (hq:q i=true):∀m:Nat,i<m→(∀j,j<i→q j=false)→(List.range m).find? q=some i
 | 0,h,_=>by omega
 | m+1,h,hn=>by
  rw[List.range_succ,List.find?_append];rcases Nat.lt_or_ge i m with h1 | h1
  ·rw[find_range hq m h1 hn];rfl
  ·have:i=m:=(by omega);subst this;have h0:(List.range i).find? q=none:=by
    rw[List.find?_eq_none];intro x hx;rw[hn x (List.mem_range.1 hx)];simp
   rw[h0];simp[hq]
theorem chR_at {t:List Pl} {m i:Nat} {p:Int} {b:Bs} (h1:1≤i) (hi:i<m) (hq:chP p b (nth t i)=true) (hn:∀j,1≤j→j<i→chP p b (nth t j)=false):chR t m p b=i:=by
 unfold chR;rw[find_range (i:=i) (by simp[h1,hq]) m hi (fun j hj=>by
  by_cases h:1≤j
  ·simp[hn j h hj]
  ·simp[h])]
theorem chR_no {t:List Pl} {m:Nat} {p:Int} {b:Bs} (hn:∀j,1≤j→j<m→chP p b (nth t j)=false):chR t m p b= -1:=by
 unfold chR;have h0:(List.range m).find? (fun i=>decide (1≤i)&&chP p b (nth t i))=none:=by
  rw[List.find?_eq_none];intro x hx;by_cases h:1≤x
  ·simp[hn x h (List.mem_range.1 hx)]
  ·simp[h]
 rw[h0]
theorem chR_nn {t:List Pl} {m:Nat} {p:Int} {b:Bs} :0≤chR t m p b↔∃k,1≤k∧k<m∧parN t k=p∧(nth t k).name=b:=by
 unfold chR;cases h:(List.range m).find? (fun i=>decide (1≤i)&&chP p b (nth t i))with
 | some i=>
  have h1:=List.mem_range.1 (List.mem_of_find?_eq_some h);have h2:=List.find?_some h;simp[chP]at h2;simp only[Int.natCast_nonneg,true_iff];exact⟨i,h2.1,h1,h2.2.1,h2.2.2⟩
 | none=>
  rw[List.find?_eq_none]at h;constructor
  ·intro h;have h:(0:Int)≤-1:=h;omega
  ·rintro⟨k,h1,h2,h3,h4⟩;refine absurd ?_ (h k (List.mem_range.2 h2));simp[h1,chP,h4];exact h3
theorem chR_eq {t:List Pl} {p:Int} {b:Bs} (g:Good t) (hp:0≤p):chR t t.length p b=atI (chF t p b):=by
 have h0:=root_par g.root;cases h:chF t p b with
 | some k=>
  obtain⟨a1,a2,a3⟩:=chF_some h;have hk:1≤k:=by
   rcases Nat.eq_zero_or_pos k with rfl | h
   ·omega
   ·exact h
  refine chR_at hk a1 (by simp[chP,a3];exact a2) fun j j1 jk=> ?_;cases hq:chP p b (nth t j)with
  | false=>rfl
  | true=>
   simp[chP]at hq;have:=g.child hp (k:=j) (by omega) hq.1 hq.2;rw[h]at this;injection this with this;omega
 | none=>
  refine chR_no fun j j1 jl=> ?_;cases hq:chP p b (nth t j)with
  | false=>rfl
  | true=>
   simp[chP]at hq;exact(chF_none.1 h j jl hq.1 hq.2).elim
theorem child38_ok (t:List Pl) (hl:t.length≤1000000000) (m:Nat) (hm:m≤t.length) (p:Int) (b:Bs):CallsOK Tryz.prog 164 [rowT Pl.cells t,iV m,iV p,sV b] (iV (chR t m p b)) []:=by
 refine callsOK mixed Tryz.call164 Tryz.func164 rfl (by rw[Tryz.ntmps164];simp) ?_ rfl;rw[Tryz.ntmps164];with_reducible refine aR fun K' hK=> ?_
 simp;refine hK _ _ _ ?_;clear K' hK;with_reducible refine aA ?_;refine aR fun K' hK=> ?_
 simp;refine hK _ _ _ ?_;clear K' hK;with_reducible refine aw_block ?_
 refine aw_loop (fun s G nx=>s 0=rowT Pl.cells t∧s 1=iV m∧s 2=iV p∧s 3=sV b∧∃i:Nat,s 9=iV i∧i≤m+1∧1≤i∧∀j,1≤j→j<i→chP p b (nth t j)=false) (fun s _ _=>match s 9 with | .v (.int _ n)=>m+1-n.toNat | _=>0) ?_ ?_
 ·exact⟨by simp,by simp,by simp,by simp,1,by simp,by omega,by omega,fun j a b=>by omega⟩
 ·rintro s G nx-⟨s0,s1,s2,s3,i,s9,hi,hi1,hn⟩;have hw:IntKind.i64.wrap (↑i+1)=((i+1:Nat):Int):=wrapS (by omega);with_reducible refine aA ?_;refine aR fun K' hK=> ?_
  simp[s1,s9];refine hK _ _ _ ?_;clear K' hK;with_reducible refine aC fun A B hA hB=> ?_
  simp;refine⟨fun hi2=>hA ?_,fun hi2=>hB ?_⟩<;>clear hA hB A B<;>(try simp at hi2)<;>(try with_reducible refine aK ?_)
  ·have hi3:i<t.length:=(by omega);with_reducible refine aw_block ?_
   by_cases c1:(nth t i).par=p
   ·by_cases c2:(nth t i).name=b
    ·skip;with_reducible refine aR fun K' hK=> ?_
     simp[s0,s2,s3,s9,hi3,c1,c2];refine hK _ _ _ ?_;clear K' hK;with_reducible refine aU (by simp) ?_;refine aA ?_;refine aR fun K' hK=> ?_
     simp[s9];refine hK _ _ _ ?_;clear K' hK;with_reducible refine aw_ret ?_
     simp[blockK,loopK,Post,resA,res1,expT,expA,exp1,expM,expL,okT,okA,ok1,rowOf,Tryz.f164];exact(chR_at hi1 hi2 (by simp[chP,c1,c2]) hn).symm
    ·skip;with_reducible refine aR fun K' hK=> ?_
     simp[s0,s2,s3,s9,hi3,c1,c2];refine hK _ _ _ ?_;clear K' hK;with_reducible refine aVk (by simp) ?_;refine aw_skipL ?_
     refine blockK_normal ?_;with_reducible refine aS fun K' hK=> ?_
     simp[s9,hw];refine hK _ _ _ ?_;clear K' hK;refine aw_skipL (loopK_normal ?_ ?_)
     ·refine⟨by simp[s0],by simp[s1],by simp[s2],by simp[s3],i+1,by simp[hw],by omega,by omega,fun j a b=> ?_⟩;rcases Nat.lt_or_ge j i with h | h
      ·exact hn j a h
      ·have:j=i:=(by omega);subst this;simp[chP,c2]
     ·simp[s9,hw];omega
   ·skip;with_reducible refine aR fun K' hK=> ?_
    simp[s0,s2,s3,s9,hi3,c1];refine hK _ _ _ ?_;clear K' hK;with_reducible refine aVk (by simp) ?_;refine aw_skipL ?_
    refine blockK_normal ?_;with_reducible refine aS fun K' hK=> ?_
    simp[s9,hw];refine hK _ _ _ ?_;clear K' hK;refine aw_skipL (loopK_normal ?_ ?_)
    ·refine⟨by simp[s0],by simp[s1],by simp[s2],by simp[s3],i+1,by simp[hw],by omega,by omega,fun j a b=> ?_⟩;rcases Nat.lt_or_ge j i with h | h
     ·exact hn j a h
     ·have:j=i:=(by omega);subst this;simp[chP,c1]
    ·simp[s9,hw];omega
  ·skip;with_reducible refine aw_exit ?_
   refine loopK_exit (blockK_exit ?_);with_reducible refine aR fun K' hK=> ?_
   simp;refine hK _ _ _ ?_;clear K' hK;with_reducible refine aw_retL ?_
   simp[blockK,loopK,Post,resA,res1,expT,expA,exp1,expM,expL,okT,okA,ok1,rowOf,Tryz.f164];exact(chR_no fun j a b=>hn j a (by omega)).symm
theorem height39_ok (t:List Pl) (hl:t.length≤1000000000) (n:Nat) (hn:n<t.length) (hp:Pre t n):CallsOK Tryz.prog 165 [rowT Pl.cells t,iV n] (iV (heightN t n)) []:=by
 refine callsOK mixed Tryz.call165 Tryz.func165 rfl (by rw[Tryz.ntmps165];simp) ?_ rfl;rw[Tryz.ntmps165];have htot:=up_len (t:=t) n;with_reducible refine aR fun K' hK=> ?_
 simp;refine hK _ _ _ ?_;clear K' hK;with_reducible refine aR fun K' hK=> ?_
 simp;refine hK _ _ _ ?_;clear K' hK;with_reducible refine aw_block ?_
 refine aw_loop (fun s G nx=>s 0=rowT Pl.cells t∧∃(j h:Nat),s 1=iV j∧s 5=iV h∧j≤n∧h+(upN t j).length=(upN t n).length) (fun s _ _=>match s 1 with | .v (.int _ n)=>n.toNat | _=>0) ?_ ?_
 ·exact⟨by simp,n,0,by simp,by simp,by omega,by omega⟩
 ·rintro s G nx-⟨s0,j,h,s1,s5,hj,hh⟩;have o1:=s1;with_reducible refine aA ?_;refine aR fun K' hK=> ?_
  simp[s1];refine hK _ _ _ ?_;clear K' hK;by_cases hj0:(0:Int)<j
  ·have hpj:=hp.2 j (by omega) hj;have hst:=up_stepL hp hj;rw[if_neg (by omega)]at hst;rw[hst]at hh;simp at hh;obtain⟨k,hk⟩:∃k:Nat,parN t j=k:=⟨(parN t j).toNat,by omega⟩;have hkp:(nth t j).par=k:=hk;rw[hk]at hh hpj;have hj3:j<t.length:=(by omega);have hw:IntKind.i64.wrap (↑h+1)=((h+1:Nat):Int):=wrapS (by omega)
   (first | with_reducible refine aC fun A B hA hB=> ?_ | with_reducible refine aD fun A B hA hB=> ?_)
   simp[hj0];refine⟨fun hc=>hA ?_,fun hc=>hB ?_⟩<;>clear hA hB A B<;>(try (simp at hc;done))<;>(try (exfalso;simp at hc;omega))<;>clear hc<;>(try with_reducible refine aK ?_);with_reducible refine aw_toS (aw_block ?_);refine aR fun K' hK=> ?_
   simp[s0,s1,hj3,hkp];refine hK _ _ _ ?_;clear K' hK;with_reducible refine aS fun K' hK=> ?_
   simp[s5,hw];refine hK _ _ _ ?_;clear K' hK;with_reducible refine aw_skipL ?_
   refine blockK_normal ?_;refine aw_skipL (loopK_normal ?_ ?_)
   ·exact⟨by simp[s0],k,h+1,by simp,by simp[hw],by omega,by simp at hh;omega⟩
   ·simp[o1];omega
  ·have:j=0:=(by omega);subst this;rw[up_zero hp.1]at hh;with_reducible refine aY (by simp[hj0]) ?_;refine aw_exit ?_
   refine loopK_exit (blockK_exit ?_);with_reducible refine aR fun K' hK=> ?_
   simp[s5];refine hK _ _ _ ?_;clear K' hK;with_reducible refine aw_retL ?_
   simp[blockK,loopK,Post,resA,res1,expT,expA,exp1,expM,expL,okT,okA,ok1,rowOf,Tryz.f165];unfold heightN;simp at hh;omega
set_option maxRecDepth 100000
set_option maxHeartbeats 1000000
theorem rightF_eq (b:Bs) (v:Ver):rightF b v=(goodF (bsL b)&&verOk v):=by
 unfold rightF;rw[Bool.and_comm]
theorem check25_ok (t:List Pl) (ht:OKs t):CallsOK Tryz.prog 110 [rowT Pl.cells t] (iV (checkN t)) []:=by
 refine callsOK mixed Tryz.call110 Tryz.func110 rfl (by rw[Tryz.ntmps110];simp) ?_ rfl;rw[Tryz.ntmps110];have hl:=ht.1;with_reducible refine aR fun K' hK=> ?_
 simp;refine hK _ _ _ ?_;clear K' hK;with_reducible refine aA ?_;refine aR fun K' hK=> ?_
 simp;refine hK _ _ _ ?_;clear K' hK;by_cases h2:(200:Int)<t.length
 ·skip;with_reducible refine aX (by simp[h2]) ?_;refine aA ?_;refine aR fun K' hK=> ?_
  simp;refine hK _ _ _ ?_;clear K' hK;with_reducible refine aw_ret ?_
  simp[blockK,loopK,Post,resA,res1,expT,expA,exp1,expM,expL,okT,okA,ok1,rowOf,Tryz.f110];rw[checkN,if_pos (by omega)]
 with_reducible refine aYk (by simp[h2]) ?_
 have h2':¬200<t.length:=(by omega);with_reducible refine aR fun K' hK=> ?_
 simp[rootC];refine hK _ _ _ ?_;clear K' hK;by_cases he:t=[]
 ·with_reducible refine aA ?_;refine aQ fun K' hK=> ?_
  simp(maxSteps:=1000000) [he];refine hK _ _ _ ?_;clear K' hK;with_reducible refine aX (by simp) ?_;refine aA ?_;refine aR fun K' hK=> ?_
  simp;refine hK _ _ _ ?_;clear K' hK;with_reducible refine aw_ret ?_
  simp[blockK,loopK,Post,resA,res1,expT,expA,exp1,expM,expL,okT,okA,ok1,rowOf,Tryz.f110];rw[checkN,if_neg h2',if_pos (.inl he)]
 have hpos:0<t.length:=List.length_pos_iff.2 he;have hpos':(0:Int)<t.length:=(by omega);have hz:¬(t.length:Int)=0:=(by omega);by_cases hr:nth t 0=rootP
 case neg=>
  with_reducible refine aA ?_;refine aQ fun K' hK=> ?_
  simp(maxSteps:=1000000) [hz,hpos,hpos',hr,he,rootC];refine hK _ _ _ ?_;clear K' hK;with_reducible refine aX (by simp) ?_;refine aA ?_;refine aR fun K' hK=> ?_
  simp;refine hK _ _ _ ?_;clear K' hK;with_reducible refine aw_ret ?_
  simp[blockK,loopK,Post,resA,res1,expT,expA,exp1,expM,expL,okT,okA,ok1,rowOf,Tryz.f110];rw[checkN,if_neg h2',if_pos (.inr hr)]
 with_reducible refine aA ?_;refine aQ fun K' hK=> ?_
 simp(maxSteps:=1000000) [hz,hpos,hpos',hr,he,rootC];refine hK _ _ _ ?_;clear K' hK;with_reducible refine aYk (by simp) ?_;refine aA ?_;refine aR fun K' hK=> ?_
 simp;refine hK _ _ _ ?_;clear K' hK;with_reducible refine aw_block ?_
 have hbad:∀ {i:Nat},i+1<t.length→okAt t i=false→checkN t=150:=fun {i} hi h=>by
  rw[checkN,if_neg h2',if_neg (by simp[he,hr]),treeOk,range_false (i:=i) (by rw[List.length_tail];omega) h];rfl
 refine aw_loop (fun s G nx=>s 0=rowT Pl.cells t∧∃m:Nat,s 4=iV m∧1≤m∧m≤t.length∧∀j,j+1<m→okAt t j=true) (fun s _ _=>match s 4 with | .v (.int _ n)=>t.length-n.toNat | _=>0) ?_ ?_
 ·exact⟨by simp,1,by simp,by omega,by omega,fun j hj=>by omega⟩
 ·rintro s G nx-⟨s0,m,s4,hm1,hm,hall⟩;have o4:=s4;have hw:IntKind.i64.wrap ((m:Int)+1)=((m+1:Nat):Int):=wrapS (by omega);obtain⟨i,hmi⟩:∃i,m=i+1:=⟨m-1,by omega⟩;have hpre:Pre t i:=⟨root_par hr,fun j h1 hj=>by
   obtain⟨j,rfl⟩:∃m,j=m+1:=⟨j-1,by omega⟩;have:=okAt_par (t:=t) (i:=j) (by omega) (hall j (by omega));omega⟩
  with_reducible refine aA ?_;refine aR fun K' hK=> ?_
  simp[s0,s4];refine hK _ _ _ ?_;clear K' hK;with_reducible refine aC fun A B hA hB=> ?_
  simp;refine⟨fun hi2=>hA ?_,fun hi2=>hB ?_⟩<;>clear hA hB A B<;>(try simp at hi2)<;>(try with_reducible refine aK ?_)
  ·have hi3:i+1<t.length:=(by omega);have hok:=okAt_iffL hi3 hpre;rw[←hmi]at hok;have hpm:nth t m∈t:=nth_mem hi2;obtain⟨b1,b2⟩:=ht.2 _ hpm;have hpar:parN t m=(nth t m).par:=rfl;generalize hp:nth t m=p at hpar hok b1 b2;rw[hpar]at hok;have hff:¬((0≤p.par∧p.par≤i)∧rightF p.name p.ver=true∧(∀(j:Nat),1≤j→j≤i→parN t j=p.par→(nth t j).name=p.name→False)∧heightN t m≤12)→okAt t i=false:=fun h=>by
    cases h1:okAt t i with
    | false=>rfl
    | true=>exact(h (hok.1 h1)).elim
   with_reducible refine aw_block ?_
   refine aw_cut (fun u G' nx'=>u 0=rowT Pl.cells t∧u 4=iV m∧∃id,u 5=.ptr id 0∧G' id=some (.var 58 p.cells)∧id<nx') ?_ ?_
   ·skip;with_reducible refine aS fun K' hK=> ?_
    simp[s0,s4,hi2,hp];refine hK _ _ _ ?_;clear K' hK;with_reducible refine aw_end ?_
    exact⟨by simp[s0],by simp[s4],nx,by simp,by simp,by omega⟩
   rintro u H ny ⟨u0,u4,id,u5,hid,hidn⟩;refine aw_cut (fun v H ny=>v 0=rowT Pl.cells t∧v 4=iV m∧v 66=bV (!okAt t i)) ?_ ?_
   ·by_cases c1:p.par<0
    ·have hf:=hff (fun h=>by omega);with_reducible refine aS fun K' hK=> ?_
     simp[u5,hid,c1];refine hK _ _ _ ?_;clear K' hK;with_reducible refine aw_end ?_
     simp[u0,u4,hf]
    by_cases c2:(m:Int)≤p.par
    ·have hf:=hff (fun h=>by omega);with_reducible refine aS fun K' hK=> ?_
     simp[u4,u5,hid,c1,c2];refine hK _ _ _ ?_;clear K' hK;with_reducible refine aw_end ?_
     simp[u0,u4,hf]
    have hpre2:Pre t m:=⟨hpre.1,fun j h1 hj=>by
     rcases Nat.lt_or_ge i j with h | h
     ·have:j=m:=(by omega);subst this;rw[hpar];omega
     ·exact hpre.2 j h1 h⟩
    with_reducible refine aS fun K' hK=> ?_
    simp[u4,u5,hid,c1,c2];refine acall_flat (good36_ok p.name (by omega)) rfl (by first | rfl | (simp;done) | (simp;rfl) | (simp;exact⟨rfl,rfl⟩)) ?_;cases c3:goodF (bsL p.name)with
    | false=>
     have hf:=hff (fun h=>by have:=h.2.1;rw[rightF_eq,c3]at this;cases this);simp;refine hK _ _ _ ?_;clear K' hK;with_reducible refine aw_end ?_
     simp[u0,u4,hf]
    | true=>
    simp[u5,hid];refine acall_flat (right37_ok p.ver (by omega)) rfl (by first | rfl | (simp;done) | (simp;rfl) | (simp;exact⟨rfl,rfl⟩)) ?_;cases c4:verOk p.ver with
    | false=>
     have hf:=hff (fun h=>by have:=h.2.1;rw[rightF_eq,c4]at this;simp at this);simp;refine hK _ _ _ ?_;clear K' hK;with_reducible refine aw_end ?_
     simp[u0,u4,hf]
    | true=>
    simp[u0,u4,u5,hid];refine acall_flat (child38_ok t hl m (by omega) p.par p.name) rfl (by first | rfl | (simp;done) | (simp;rfl) | (simp;exact⟨rfl,rfl⟩)) ?_;have hch:=chR_nn (t:=t) (m:=m) (p:=p.par) (b:=p.name);by_cases c5:0≤chR t m p.par p.name
    ·have hf:=hff (fun h=>by
      obtain⟨k,k1,k2,k3,k4⟩:=hch.1 c5;exact h.2.2.1 k k1 (by omega) k3 k4)
     simp[c5];refine hK _ _ _ ?_;clear K' hK;with_reducible refine aw_end ?_
     simp[u0,u4,hf]
    simp[c5,u0,u4];refine acall_flat (height39_ok t hl m hi2 hpre2) rfl (by first | rfl | (simp;done) | (simp;rfl) | (simp;exact⟨rfl,rfl⟩)) ?_;by_cases c6:12<heightN t m
    ·have hf:=hff (fun h=>by omega);simp[c6];refine hK _ _ _ ?_;clear K' hK;with_reducible refine aw_end ?_
     simp[u0,u4,hf]
    ·have hf:okAt t i=true:=hok.2 ⟨by omega,by rw[rightF_eq,c3,c4];rfl,fun j j1 j2 j3 j4=>c5 (hch.2 ⟨j,j1,by omega,j3,j4⟩),by omega⟩;simp[c6];refine hK _ _ _ ?_;clear K' hK;with_reducible refine aw_end ?_
     simp[u0,u4,hf]
   rintro v H ny ⟨v0,v4,v66⟩;cases hf:okAt t i with
   | false=>
    rw[hf]at v66;with_reducible refine aU (by simp[v66]) ?_;refine aA ?_;refine aR fun K' hK=> ?_
    simp;refine hK _ _ _ ?_;clear K' hK;with_reducible refine aw_ret ?_
    simp[blockK,loopK,Post,resA,res1,expT,expA,exp1,expM,expL,okT,okA,ok1,rowOf,Tryz.f110];exact(hbad hi3 hf).symm
   | true=>
    rw[hf]at v66;with_reducible refine aVk (by simp[v66]) ?_;refine aw_skipL ?_
    refine blockK_normal ?_;with_reducible refine aS fun K' hK=> ?_
    simp[v4,hw];refine hK _ _ _ ?_;clear K' hK;refine aw_skipL (loopK_normal ?_ ?_)
    ·refine⟨by simp[v0],m+1,by simp[hw],by omega,by omega,fun j hj=> ?_⟩;rcases Nat.lt_or_ge j i with h | h
     ·exact hall j (by omega)
     ·have:j=i:=(by omega);subst this;exact hf
    ·simp[o4,hw];omega
  ·skip;with_reducible refine aw_exit ?_
   refine loopK_exit (blockK_exit ?_);with_reducible refine aR fun K' hK=> ?_
   simp;refine hK _ _ _ ?_;clear K' hK;with_reducible refine aw_retL ?_
   simp[blockK,loopK,Post,resA,res1,expT,expA,exp1,expM,expL,okT,okA,ok1,rowOf,Tryz.f110];have hto:treeOk t=true:=by
    unfold treeOk;rw[List.all_eq_true];intro j hj;have:=List.mem_range.1 hj;rw[List.length_tail]at this;exact hall j (by omega)
   rw[checkN,if_neg h2',if_neg (by simp[he,hr]),if_pos hto]
set_option maxRecDepth 100000
set_option maxHeartbeats 1000000
theorem under50_ok (t:List Pl) (g:Good t) (i:Nat) (hi:i<t.length) (x:Nat):CallsOK Tryz.prog 202 [rowT Pl.cells t,iV i,iV x] (bV (underF t i x)) []:=by
 refine callsOK mixed Tryz.call202 Tryz.func202 rfl (by rw[Tryz.ntmps202];simp) ?_ rfl;rw[Tryz.ntmps202];with_reducible refine aR fun K' hK=> ?_
 simp;refine hK _ _ _ ?_;clear K' hK;with_reducible refine aw_block ?_
 refine aw_loop (fun s G nx=>s 0=rowT Pl.cells t∧s 2=iV x∧∃j:Nat,s 1=iV j∧j<t.length∧underF t j x=underF t i x) (fun s _ _=>match s 1 with | .v (.int _ n)=>n.toNat | _=>0) ?_ ?_
 ·exact⟨by simp,by simp,i,by simp,hi,rfl⟩
 ·rintro s G nx-⟨s0,s2,j,s1,hj,hu⟩;have o1:=s1;with_reducible refine aA ?_;refine aR fun K' hK=> ?_
  simp[s1,s2];refine hK _ _ _ ?_;clear K' hK;with_reducible refine aC fun A B hA hB=> ?_
  simp;refine⟨fun hx=>hA ?_,fun hx=>hB ?_⟩<;>clear hA hB A B<;>(try simp at hx)<;>(try with_reducible refine aK ?_)
  ·have hp:=g.par j (by omega) hj;obtain⟨k,hk⟩:∃k:Nat,parN t j=k:=⟨(parN t j).toNat,by omega⟩;have hkp:(nth t j).par=k:=hk;have hst:=under_step g.dn hj (x:Int);rw[hk]at hst hp;have h1:¬(j:Int)=x:=(by omega);have h2:¬(k:Int)<0:=(by omega);simp only[h1,h2,decide_false,Bool.false_or,Bool.not_false,Bool.true_and,Int.toNat_natCast]at hst;with_reducible refine aw_toS (aw_block ?_);refine aS fun K' hK=> ?_
   simp[s0,s1,hj,hkp];refine hK _ _ _ ?_;clear K' hK;with_reducible refine aw_skipL ?_
   refine blockK_normal ?_;refine aw_skipL (loopK_normal ?_ ?_)
   ·exact⟨by simp[s0],by simp[s2],k,by simp,by omega,by rw[←hst];exact hu⟩
   ·simp[o1];omega
  ·skip;with_reducible refine aw_exit ?_
   refine loopK_exit (blockK_exit ?_);with_reducible refine aR fun K' hK=> ?_
   simp[s1,s2];refine hK _ _ _ ?_;clear K' hK;with_reducible refine aw_retL ?_
   simp[blockK,loopK,Post,resA,res1,expT,expA,exp1,expM,expL,okT,okA,ok1,rowOf,Tryz.f202];rw[←hu];by_cases he:j=x
   ·subst he;simp[under_self g hj]
   ·have:underF t j x=false:=by
     cases h:underF t j x with
     | false=>rfl
     | true=>have:=under_ge g hj h;omega
    rw[this];simp;omega
theorem resolved49_ok (t:List Pl) (g:Good t) (ht:OKs t) (i:Nat) (hi:i<t.length) (b:Bs):CallsOK Tryz.prog 136 [rowT Pl.cells t,iV i,sV b] (iV (resolveN t i b)) []:=by
 refine callsOK mixed Tryz.call136 Tryz.func136 rfl (by rw[Tryz.ntmps136];simp) ?_ rfl;rw[Tryz.ntmps136];with_reducible refine aR fun K' hK=> ?_
 simp;refine hK _ _ _ ?_;clear K' hK;with_reducible refine aw_block ?_
 refine aw_loop (fun s G nx=>s 0=rowT Pl.cells t∧s 2=sV b∧∃p:Int,s 1=iV p∧((∃j:Nat,p=j∧j<t.length∧resolveN t j b=resolveN t i b)∨(p= -1∧resolveN t i b= -1))) (fun s _ _=>match s 1 with | .v (.int _ n)=>(n+1).toNat | _=>0) ?_ ?_
 ·exact⟨by simp,by simp,i,by simp,.inl ⟨i,rfl,hi,rfl⟩⟩
 ·rintro s G nx-⟨s0,s2,p,s1,hp⟩;rcases hp with⟨j,rfl,hj,hr⟩ | ⟨rfl,hr⟩
  ·have o1:=s1;have hd:=g.dn j hj;have hge: -1≤parN t j:=by
    rcases Nat.eq_zero_or_pos j with rfl | h
    ·rw[root_par g.root];omega
    ·have:=g.par j h hj;omega
   have hch:=chR_eq (b:=b) g (p:=(j:Int)) (by omega);with_reducible refine aA ?_;refine aR fun K' hK=> ?_
   simp[s1];refine hK _ _ _ ?_;clear K' hK;with_reducible refine aXk (by simp) ?_;refine aw_toS (aw_block ?_);refine aR fun K' hK=> ?_
   simp[s0,s1,s2];refine acall_flat (child38_ok t ht.1 t.length (Nat.le_refl _) j b) rfl (by first | rfl | (simp;done) | (simp;rfl) | (simp;exact⟨rfl,rfl⟩)) ?_;rw[hch];simp;refine hK _ _ _ ?_;clear K' hK;cases hc:chF t j b with
   | some k=>
    rw[res_at g hj hc]at hr;have h0:(0:Int)≤atI (some k):=(by simp[atI]);with_reducible refine aA ?_;refine aR fun K' hK=> ?_
    simp[h0];refine hK _ _ _ ?_;clear K' hK;with_reducible refine aX (by simp) ?_;refine aA ?_;refine aR fun K' hK=> ?_
    simp;refine hK _ _ _ ?_;clear K' hK;with_reducible refine aw_ret ?_
    simp[blockK,loopK,Post,resA,res1,expT,expA,exp1,expM,expL,okT,okA,ok1,rowOf,Tryz.f136];rw[←hr];rfl
   | none=>
    have h0:¬(0:Int)≤atI none:=(by simp[atI]);with_reducible refine aA ?_;refine aR fun K' hK=> ?_
    simp[h0];refine hK _ _ _ ?_;clear K' hK;with_reducible refine aYk (by simp) ?_;refine aS fun K' hK=> ?_
    simp[s0,s1,hj];refine hK _ _ _ ?_;clear K' hK;with_reducible refine aw_skipL ?_
    refine blockK_normal ?_;refine aw_skipL (loopK_normal ?_ ?_)
    ·refine⟨by simp[s0],by simp[s2],parN t j,by simp[parN],?_⟩;by_cases hp:0≤parN t j
     ·rw[res_up g hj hc hp]at hr;exact .inl ⟨(parN t j).toNat,by omega,by omega,by rw[Int.toNat_of_nonneg hp];exact hr⟩
     ·rw[res_root g hj hc (by omega)]at hr;exact .inr ⟨by omega,hr.symm⟩
    ·simp[o1];have:(nth t j).par=parN t j:=rfl;omega
  ·with_reducible refine aA ?_;refine aR fun K' hK=> ?_
   simp[s1];refine hK _ _ _ ?_;clear K' hK;with_reducible refine aY (by simp) ?_;refine aw_exit ?_
   refine loopK_exit (blockK_exit ?_);with_reducible refine aR fun K' hK=> ?_
   simp;refine hK _ _ _ ?_;clear K' hK;with_reducible refine aw_retL ?_
   simp[blockK,loopK,Post,resA,res1,expT,expA,exp1,expM,expL,okT,okA,ok1,rowOf,Tryz.f136];exact hr.symm
set_option maxRecDepth 100000
set_option maxHeartbeats 1000000
theorem c9:Tryz.prog.cellsOf 9=1:=by kernel_rfl
set_option maxRecDepth 100000
set_option maxHeartbeats 1000000
@[simp] theorem eqlB (a b:Bool):evBin Tryz.prog .eql 4 (.bool a) (.bool b)=some (.bool (a==b)):=by
 cases a<;>cases b<;>kernel_rfl
theorem own11_ok (t:List Pl) (hl:t.length≤1000000000):CallsOK Tryz.prog 23 [rowT Pl.cells t] (.row 0 t.length) [(58,flat Pl.cells t)]:=by
 refine callsOK mixed Tryz.call23 Tryz.func23 rfl (by rw[Tryz.ntmps23];simp) ?_ rfl;rw[Tryz.ntmps23];have b1:t.length≤9223372036854775807:=(by omega);have b2:t.length*64≤140737488355328:=(by omega);have hfl:(flat Pl.cells t).length=t.length*6:=flat_len;with_reducible refine aR fun K' hK=> ?_
 simp;refine hK _ _ _ ?_;clear K' hK;with_reducible refine aR fun K' hK=> ?_
 simp;refine hK _ _ _ ?_;clear K' hK;with_reducible refine aR fun K' hK=> ?_
 simp[b1,b2,hfl];refine hK _ _ _ ?_;clear K' hK;with_reducible refine aR fun K' hK=> ?_
 simp;refine hK _ _ _ ?_;clear K' hK;with_reducible refine aw_retL ?_
 simp[blockK,loopK,Post,resA,res1,expT,expA,exp1,expM,expL,okT,okA,ok1,rowOf,Tryz.f23]
def OwnAt (G:Hp) (r:Nat) (t:List Pl):Prop:=G r=some (.row 58 (flat Pl.cells t))∨G r=some (.frz 58 (flat Pl.cells t))
theorem OwnAt.tree {G:Hp} {r:Nat} {t:List Pl} (h:OwnAt G r t):treeOf Tryz.prog G (.row r t.length)=some (rowT Pl.cells t):=by
 rcases h with h | h
 ·exact treeOf_of h c34 rfl
 ·exact treeOf_of' h c34 rfl
theorem OwnAt.frz {G:Hp} {r n:Nat} {t:List Pl} (h:OwnAt G r t):∃G',frzOf G (.row r n)=G'∧OwnAt G' r t∧∀j,j≠r→G' j=G j:=by
 rcases h with h | h
 ·cases t with
  | nil=>exact⟨G,by rw[frzOf_row,h];rfl,.inl h,fun _ _=>rfl⟩
  | cons p t=>exact⟨_,frz_new h (by simp),.inr (by simp),fun j hj=>Hp.upd_ne _ _ hj⟩
 ·exact⟨G,frz_old h,.inr h,fun _ _=>rfl⟩
set_option maxRecDepth 100000
set_option maxHeartbeats 1000000
theorem without41_ok (t:List Pl) (g:Good t) (ht:OKs t) (n:Nat) (hn1:1≤n) (hn:n<t.length):CallsOK Tryz.prog 167 [rowT Pl.cells t,iV n] (.row 0 (cutT t n t.length).length) [(58,flat Pl.cells (cutT t n t.length))]:=by
 refine callsOK mixed Tryz.call167 Tryz.func167 rfl (by rw[Tryz.ntmps167];simp) ?_ rfl;rw[Tryz.ntmps167];have hl:=ht.1;with_reducible refine aR fun K' hK=> ?_
 simp;refine hK _ _ _ ?_;clear K' hK;with_reducible refine aR fun K' hK=> ?_
 simp;refine hK _ _ _ ?_;clear K' hK;have hmk:evMake Tryz.prog ((Hp.upd (fun _=>none) 0 (.row 58 [])).upd 1 (.row 58 [])) 2 49 (iV t.length) (iV t.length)=some (.row 2 t.length,((Hp.upd (fun _=>none) 0 (.row 58 [])).upd 1 (.row 58 [])).upd 2 (.row 3 (flat iC (List.replicate t.length 0))),3):=by
  simp only[evMake,elI48];rw[if_pos ⟨trivial,by omega,by omega,by omega⟩,Int.toNat_natCast,made_iC]
 with_reducible refine aR fun K' hK=> ?_
 simp[hmk];refine hK _ _ _ ?_;clear K' hK;with_reducible refine aA ?_;refine aR fun K' hK=> ?_
 simp;refine hK _ _ _ ?_;clear K' hK;with_reducible refine aw_block ?_
 refine aw_loop (fun s G nx=>s 0=rowT Pl.cells t∧s 1=iV n∧s 6=.row 2 t.length∧3≤nx∧∃(k r:Nat) (ν:List Int),s 7=iV k∧k≤t.length∧s 5=.row r (cutT t n k).length∧G r=some (.row 58 (flat Pl.cells (cutT t n k)))∧r≠2∧r<nx∧G 2=some (.row 3 (flat iC ν))∧ν.length=t.length∧∀j,j<k→underF t j n=false→nth ν j=rkN t n j) (fun s _ _=>match s 7 with | .v (.int _ n)=>t.length-n.toNat | _=>0) ?_ ?_
 ·exact⟨by simp,by simp,by simp,by omega,0,1,List.replicate t.length 0,by simp,by omega,by simp[cutT,keptN],by simp[cutT,keptN],by omega,by omega,by simp,by simp,fun j hj=>by omega⟩
 ·rintro s G nx-⟨s0,s1,s6,hnx,k,r,ν,s7,hk,s5,hr,hr2,hrn,h2,hν,hval⟩;have hw:IntKind.i64.wrap (↑k+1)=((k+1:Nat):Int):=wrapS (by omega);have o7:=s7;with_reducible refine aA ?_;refine aR fun K' hK=> ?_
  simp[s0,s7];refine hK _ _ _ ?_;clear K' hK;with_reducible refine aC fun A B hA hB=> ?_
  simp;refine⟨fun hi2=>hA ?_,fun hi2=>hB ?_⟩<;>clear hA hB A B<;>(try simp at hi2)<;>(try with_reducible refine aK ?_)
  ·skip;with_reducible refine aw_block ?_;refine aA ?_;refine aR fun K' hK=> ?_
   simp[s0,s1,s7];refine acall_flat (under50_ok t g k hi2 n) rfl (by first | rfl | (simp;done) | (simp;rfl) | (simp;exact⟨rfl,rfl⟩)) ?_;simp;refine hK _ _ _ ?_;clear K' hK;cases hun:underF t k n with
   | true=>
    have e1:keptN t n (k+1)=keptN t n k:=(by rw[kept_succ,hun];simp);have e2:cutT t n (k+1)=cutT t n k:=(by rw[cutT,e1];rfl);with_reducible refine aX (by simp) ?_
    refine aw_exit (blockK_exit ?_);with_reducible refine aS fun K' hK=> ?_
    simp[s7,hw];refine hK _ _ _ ?_;clear K' hK;refine aw_skipL (loopK_normal ?_ ?_)
    ·refine⟨by simp[s0],by simp[s1],by simp[s6],hnx,k+1,r,ν,by simp[hw],by omega,by rw[e2];simp[s5],by rw[e2];exact hr,hr2,hrn,h2,hν,fun j hj hu=> ?_⟩;rcases Nat.lt_or_ge j k with h | h
     ·exact hval j h hu
     ·have:j=k:=(by omega);subst this;rw[hun]at hu;cases hu
    ·simp[o7,hw];omega
   | false=>
    with_reducible refine aYk (by simp) ?_
    generalize hp:nth t k=p;have hpp:p.par=parN t k:=(by rw[←hp];rfl);have hL:(cutT t n k).length=rkN t n k:=cut_len;have hle:=kept_le (t:=t) (i:=n) (k:=k);have hlt:(cutT t n k).length≤k:=(by rw[cutT_len];exact hle);have hcell:iV (renum t n (parN t k))::p.cells.tail=(cutP t n k).cells:=(by rw[←hp];rfl);have hT:cutT t n (k+1)=cutT t n k++[cutP t n k]:=by
     have hk1:keptN t n (k+1)=keptN t n k++[k]:=(by rw[kept_succ,hun];rfl);rw[cutT,cutT,hk1,List.map_append];rfl
    refine aw_cut (fun u H ny=>u 0=rowT Pl.cells t∧u 1=iV n∧u 5=.row r (cutT t n k).length∧u 6=.row 2 t.length∧u 7=iV k∧u 8=.ptr nx 0∧ny=nx+1∧H r=some (.row 58 (flat Pl.cells (cutT t n k)))∧H 2=some (.row 3 (flat iC ν))∧H nx=some (.var 58 p.cells)) ?_ ?_
    ·skip;with_reducible refine aS fun K' hK=> ?_
     simp[s0,s7,hi2,hp];refine hK _ _ _ ?_;clear K' hK;with_reducible refine aw_end ?_
     exact⟨by simp[s0],by simp[s1],by simp[s5],by simp[s6],by simp[s7],by simp,rfl,by(repeat rw[Hp.upd_ne _ _ (by omega)]);exact hr,by(repeat rw[Hp.upd_ne _ _ (by omega)]);exact h2,by simp⟩
    rintro u H ny ⟨u0,u1,u5,u6,u7,u8,rfl,hr,h2,hx⟩;with_reducible refine aA ?_;refine aw_un ?_
    refine aw_cut (fun u H ny=>u 0=rowT Pl.cells t∧u 1=iV n∧u 5=.row r (cutT t n k).length∧u 6=.row 2 t.length∧u 7=iV k∧u 8=.ptr nx 0∧ny=nx+1∧H r=some (.row 58 (flat Pl.cells (cutT t n k)))∧H 2=some (.row 3 (flat iC ν))∧H nx=some (.var 58 (cutP t n k).cells)) ?_ ?_
    ·by_cases hk0:(0:Int)<k
     ·have hpar:=g.par k (by omega) hi2;obtain⟨q,hq⟩:∃q:Nat,parN t k=q:=⟨(parN t k).toNat,by omega⟩;have hpq:p.par=q:=(by rw[hpp,hq]);have huq:=under_par g hi2 (by omega) hun;rw[hq,Int.toNat_natCast]at huq;have hvq:=hval q (by omega) huq;have hq3:q<ν.length:=(by omega);have hq4:q<t.length:=(by omega);have hren:renum t n (parN t k)=rkN t n q:=(by rw[hq,renum_nn (by omega),Int.toNat_natCast]);rw[hren]at hcell;have n2:¬nx=2:=(by omega);have n3:¬2=nx:=(by omega);with_reducible refine aR fun K' hK=> ?_
      simp[u7,hk0];refine hK _ _ _ ?_;clear K' hK
      (first | with_reducible refine aC fun A B hA hB=> ?_ | with_reducible refine aD fun A B hA hB=> ?_)
      simp;refine⟨fun hc=>hA ?_,fun hc=>hB ?_⟩<;>clear hA hB A B<;>(try (simp at hc;done))<;>(try (exfalso;simp at hc;omega))<;>clear hc<;>(try with_reducible refine aK ?_);with_reducible refine aR fun K' hK=> ?_
      simp[u6,u8,hx,hpq,h2,hq3,hq4,hvq,n2,n3,hcell];refine hK _ _ _ ?_;clear K' hK;with_reducible refine aw_end ?_
      exact⟨by simp[u0],by simp[u1],by simp[u5],by simp[u6],by simp[u7],by simp[u8],rfl,by(repeat rw[Hp.upd_ne _ _ (by omega)]);exact hr,by(repeat rw[Hp.upd_ne _ _ (by omega)]);exact h2,by simp⟩
     ·have:k=0:=(by omega);subst this;have hren:renum t n (parN t 0)=p.par:=(by rw[hpp,root_par g.root];rfl);rw[hren]at hcell;have hc2:p.cells=(cutP t n 0).cells:=hcell;with_reducible refine aR fun K' hK=> ?_
      simp[u7];refine hK _ _ _ ?_;clear K' hK;with_reducible refine aVk (by simp) ?_;refine aw_end ?_
      rw[←hc2];exact⟨by simp[u0],by simp[u1],by simp[u5],by simp[u6],by simp[u7],by simp[u8],rfl,hr,h2,hx⟩
    rintro u H ny ⟨u0,u1,u5,u6,u7,u8,rfl,hr,h2,hx⟩;have b1:(cutT t n k).length+1≤9223372036854775807:=(by omega);have b2:((cutT t n k).length+1)*64≤140737488355328:=(by omega);have hkν:k<ν.length:=(by omega);have hput:putO (flat iC ν) 1 k 0 [iV (cutT t n k).length]=flat iC (ν.set k (cutT t n k).length):=putO_flat hkν _;have n2:¬nx=2:=(by omega);have n3:¬2=nx:=(by omega);have n4:¬r=nx:=(by omega);have n5:¬nx=r:=(by omega);have n6:¬r=2:=hr2;have n7:¬2=r:=fun h=>hr2 h.symm;have n8:¬r=nx+1:=(by omega);have n9:¬2=nx+1:=(by omega);have na:¬nx+1=2:=(by omega);with_reducible refine aR fun K' hK=> ?_
    simp[u5,u6,u7,hr,h2,hi2,hkν,hput,n6,n7];refine hK _ _ _ ?_;clear K' hK;with_reducible refine aS fun K' hK=> ?_
    simp[u5,u8,hx,hr,n2,n3,n4,n5,n6,n7,n8,n9,b1,b2,treeOf_row,srcOf_row];refine hK _ _ _ ?_;clear K' hK;with_reducible refine aw_skipL ?_
    refine blockK_normal ?_;with_reducible refine aS fun K' hK=> ?_
    simp[u7,hw];refine hK _ _ _ ?_;clear K' hK;refine aw_skipL (loopK_normal ?_ ?_)
    ·refine⟨by simp[u0],by simp[u1],by simp[u6],by omega,k+1,nx+1+1,ν.set k (cutT t n k).length,by simp[hw],by omega,?_,?_,by omega,by omega,?_,by simpa using hν,fun j hj hu=> ?_⟩
     ·rw[hT];simp
     ·rw[hT,Hp.upd_self,←flat_snoc]
     ·rw[Hp.upd_ne _ _ (by omega),Hp.upd_ne _ _ n7,Hp.upd_ne _ _ n9,Hp.upd_self]
     ·rw[nth_setG hkν];by_cases h:j=k
      ·rw[if_pos h,h,hL]
      ·rw[if_neg h];exact hval j (by omega) hu
    ·simp[o7,hw];omega
  ·skip;with_reducible refine aw_exit ?_
   refine loopK_exit (blockK_exit ?_);have:k=t.length:=(by omega);subst this;with_reducible refine aR fun K' hK=> ?_
   simp[s5];refine hK _ _ _ ?_;clear K' hK;with_reducible refine aw_retL ?_
   simp[blockK,loopK,Post,resA,res1,expT,expA,exp1,expM,expL,okT,okA,ok1,rowOf,Tryz.f167,hr]
theorem cut15_ok (t:List Pl) (ht:OKs t) (i:Int):CallsOK Tryz.prog 117 [rowT Pl.cells t,iV i] (.tup [.row 0 (cutR t i).length,iV (cutCode t i)]) [(58,flat Pl.cells (cutR t i))]:=by
 refine callsOK mixed Tryz.call117 Tryz.func117 rfl (by rw[Tryz.ntmps117];simp) ?_ rfl;rw[Tryz.ntmps117];with_reducible refine aR fun K' hK=> ?_
 simp;refine hK _ _ _ ?_;clear K' hK;with_reducible refine aR fun K' hK=> ?_
 simp;refine acall_flat (check25_ok t ht) rfl (by first | rfl | (simp;done) | (simp;rfl) | (simp;exact⟨rfl,rfl⟩)) ?_;simp;refine hK _ _ _ ?_;clear K' hK;by_cases c0:checkN t=0
 case neg=>
  have e1:cutCode t i=checkN t:=(by simp[cutCode,c0]);have e2:cutR t i=[]:=(by rw[cutR,e1,if_neg c0]);with_reducible refine aA ?_;refine aR fun K' hK=> ?_
  simp[c0];refine hK _ _ _ ?_;clear K' hK;with_reducible refine aX (by simp) ?_;refine aA ?_;refine aR fun K' hK=> ?_
  simp;refine hK _ _ _ ?_;clear K' hK;with_reducible refine aw_ret ?_
  simp[blockK,loopK,Post,resA,res1,expT,expA,exp1,expM,expL,okT,okA,ok1,rowOf,Tryz.f117];rw[e1,e2];simp;rfl
 have g:=check_iff.1 c0;with_reducible refine aA ?_;refine aR fun K' hK=> ?_
 simp[c0];refine hK _ _ _ ?_;clear K' hK;with_reducible refine aYk (by simp) ?_
 by_cases c1:i<1
 ·have e1:cutCode t i=151:=(by simp[cutCode,c0];omega);have e2:cutR t i=[]:=(by rw[cutR,e1];rfl);with_reducible refine aA ?_;refine aR fun K' hK=> ?_
  simp[c1];refine hK _ _ _ ?_;clear K' hK;with_reducible refine aX (by simp) ?_;refine aA ?_;refine aR fun K' hK=> ?_
  simp;refine hK _ _ _ ?_;clear K' hK;with_reducible refine aw_ret ?_
  simp[blockK,loopK,Post,resA,res1,expT,expA,exp1,expM,expL,okT,okA,ok1,rowOf,Tryz.f117];rw[e1,e2];simp;rfl
 by_cases c2:(t.length:Int)≤i
 ·have e1:cutCode t i=151:=(by simp[cutCode,c0];omega);have e2:cutR t i=[]:=(by rw[cutR,e1];rfl);with_reducible refine aA ?_;refine aR fun K' hK=> ?_
  simp[c1,c2];refine hK _ _ _ ?_;clear K' hK;with_reducible refine aX (by simp) ?_;refine aA ?_;refine aR fun K' hK=> ?_
  simp;refine hK _ _ _ ?_;clear K' hK;with_reducible refine aw_ret ?_
  simp[blockK,loopK,Post,resA,res1,expT,expA,exp1,expM,expL,okT,okA,ok1,rowOf,Tryz.f117];rw[e1,e2];simp;rfl
 obtain⟨n,rfl⟩:∃n:Nat,i=n:=⟨i.toNat,by omega⟩;have e1:cutCode t n=0:=by
  have h1:1≤(n:Int)∧(n:Int)<t.length:=(by omega);rw[cutCode,if_neg (by simp[c0]),if_pos h1]
 have e2:cutR t n=cutT t n t.length:=(by rw[cutR,e1];rfl);with_reducible refine aA ?_;refine aR fun K' hK=> ?_
 simp[c1,c2];refine hK _ _ _ ?_;clear K' hK;with_reducible refine aYk (by simp) ?_;refine aR fun K' hK=> ?_
 simp;refine acall_new (without41_ok t g ht n (by omega) (by omega)) (by first | rfl | (simp;done) | (simp;rfl) | (simp;exact⟨rfl,rfl⟩)) ?_;simp[addJ_one];refine hK _ _ _ ?_;clear K' hK;with_reducible refine aw_retL ?_
 simp[blockK,loopK,Post,resA,res1,expT,expA,exp1,expM,expL,okT,okA,ok1,rowOf,Tryz.f117];rw[e1,e2];exact⟨[1],⟨⟨rfl,rfl⟩,rfl⟩,rfl⟩
set_option maxHeartbeats 400000
def ltB (a b:Bs):Bool:=decide (bsL a<bsL b)
@[simp] theorem str_lss (P:Program) (t:TypeId) (a b:Bs):evBin P .lss t (.string a) (.string b)=some (.bool (ltB a b)):=by
 simp only[evBin,bytesLess_eq,toL_bsL,ltB]
theorem list_tri (a b:List UInt8):(!(decide (a<b) || a==b))=decide (b<a):=by
 rw[Bool.eq_iff_iff];simp only[Bool.not_eq_true',Bool.or_eq_false_iff,decide_eq_false_iff_not,beq_eq_false_iff_ne,decide_eq_true_eq];constructor
 ·rintro⟨h1,h2⟩;apply Classical.byContradiction;intro h3;exact h2 (List.le_antisymm (List.not_lt.1 h3) (List.not_lt.1 h1))
 ·intro h;exact⟨List.lt_asymm h,fun e=>by subst e;exact List.lt_irrefl _ h⟩
@[simp] theorem str_gtr (P:Program) (t:TypeId) (a b:Bs):evBin P .gtr t (.string a) (.string b)=some (.bool (ltB b a)):=by
 simp only[evBin,bytesLess_eq,toL_bsL,ltB];rw[list_tri]
@[simp] theorem str_geq (P:Program) (t:TypeId) (a b:Bs):evBin P .geq t (.string a) (.string b)=some (.bool (!ltB a b)):=by
 simp only[evBin,bytesLess_eq,toL_bsL,ltB]
@[simp] theorem str_leq (P:Program) (t:TypeId) (a b:Bs):evBin P .leq t (.string a) (.string b)=some (.bool (!ltB b a)):=by
 simp only[evBin,bytesLess_eq,toL_bsL,ltB];rw[←list_tri (bsL a) (bsL b),Bool.not_not]
theorem ltB_irr (a:Bs):ltB a a=false:=by
 unfold ltB;exact decide_eq_false (List.lt_irrefl _)
theorem ltB_asym {a b:Bs} (h:ltB a b=true):ltB b a=false:=by
 unfold ltB at h⊢;exact decide_eq_false (List.lt_asymm (of_decide_eq_true h))
theorem ltB_tri {a b:Bs} (h1:ltB a b=false) (h2:ltB b a=false):a=b:=by
 unfold ltB at h1 h2;exact bsL_inj (List.le_antisymm (List.not_lt.1 (of_decide_eq_false h2)) (List.not_lt.1 (of_decide_eq_false h1)))
theorem ltB_trans {a b c:Bs} (h1:ltB a b=true) (h2:ltB b c=true):ltB a c=true:=by
 unfold ltB at h1 h2⊢;exact decide_eq_true (List.lt_trans (of_decide_eq_true h1) (of_decide_eq_true h2))
def cmpI (a b:Int):Int:=if a<b then-1 else if b<a then 1 else 0
def cmpB (a b:Bs):Int:=if ltB a b=true then-1 else if ltB b a=true then 1 else 0
theorem cmpI_self (a:Int):cmpI a a=0:=by simp[cmpI]
theorem cmpB_self (a:Bs):cmpB a a=0:=by simp[cmpB,ltB_irr]
theorem cmpB_zero {a b:Bs} :cmpB a b=0↔a=b:=by
 constructor
 ·intro h;unfold cmpB at h;split at h
  ·cases h
  ·rename_i h1;split at h
   ·cases h
   ·rename_i h2;exact ltB_tri (by simpa using h1) (by simpa using h2)
 ·rintro rfl;exact cmpB_self a
def partsN (a b:Bs):Int:=if numP (bsL a)=true then(if numP (bsL b)=true then cmpI (atoiN (bsL a)) (atoiN (bsL b))else-1)else if numP (bsL b)=true then 1 else cmpB a b
theorem partsN_self (a:Bs):partsN a a=0:=by
 unfold partsN;split
 ·exact cmpI_self _
 ·exact cmpB_self _
def rowsN:List Bs→List Bs→Int
 | a::x,b::y=>if partsN a b=0 then rowsN x y else partsN a b
 | x,y=>cmpI x.length y.length
theorem rowsN_self:∀x:List Bs,rowsN x x=0
 | []=>rfl
 | a::x=>by rw[rowsN,if_pos (partsN_self a),rowsN_self x]
def coreN (a b:Ver):Int:=if cmpI a.maj b.maj≠0 then cmpI a.maj b.maj else if cmpI a.min b.min≠0 then cmpI a.min b.min else cmpI a.pat b.pat
def comparN (a b:Ver):Int:=if verOk a=true∧verOk b=true then
  (if coreN a b≠0∨a.pre=b.pre then coreN a b else if a.pre=⟨#[]⟩then 1 else if b.pre=⟨#[]⟩then-1 else rowsN (strs (spl (bsL a.pre))) (strs (spl (bsL b.pre))))
 else 0
theorem parse_num:∀(l:List UInt8) (acc k:Nat),l.all digB=true→acc<10^k→k+l.length≤17→∃u,Lib.parseUint10 acc l=.ok u∧(u:Int)=l.foldl (fun n c=>10*n+((c.toNat:Int)-48)) acc∧u<10^(k+l.length)
 | [],acc,k,_,ha,_=>⟨acc,rfl,rfl,by simpa using ha⟩
 | c::r,acc,k,hl,ha,hk=>by
  rw[List.all_cons,Bool.and_eq_true]at hl;obtain⟨hc,hr⟩:=hl;simp[digB]at hc;simp only[List.length_cons]at hk;have hp:(10:Nat)^k≤10^16:=Nat.pow_le_pow_right (by decide) (by omega);have hp2:(10:Nat)^16=10000000000000000:=(by decide);have hnew:acc*10+(c.toNat-48)<10^(k+1):=(by rw[Nat.pow_succ];omega);obtain⟨u,h1,h2,h3⟩:=parse_num r (acc*10+(c.toNat-48)) (k+1) hr hnew (by omega);refine⟨u,?_,?_,?_⟩
  ·rw[Lib.parseUint10,if_pos (by omega),if_neg (by omega),if_neg (by omega)];exact h1
  ·rw[h2,List.foldl_cons];congr 1;omega
  ·rw[List.length_cons];have e:k+(r.length+1)=k+1+r.length:=(by omega);rw[e];exact h3
theorem atoi_num {l:List UInt8} (hd:l.all digB=true) (hne:l≠[]) (hl:l.length≤17):atoiN l=numV l:=by
 obtain⟨u,h1,h2,h3⟩:=parse_num l 0 0 hd (by decide) (by omega);cases l with
 | nil=>exact absurd rfl hne
 | cons c r=>
  rw[List.all_cons,Bool.and_eq_true]at hd;have hc:=hd.1;simp[digB]at hc;have hm:Lib.parseMag (c::r)=.ok u:=(by rw[Lib.parseMag,if_neg (by simp)];exact h1);have hp:(10:Nat)^(0+(c::r).length)≤10^17:=Nat.pow_le_pow_right (by decide) (by omega);have hp2:(10:Nat)^17=100000000000000000:=(by decide);have ha:Lib.atoiAll (c::r)=.ok (u:Int):=by
   unfold Lib.atoiAll;have c1:¬c.toNat=43:=(by omega);have c2:¬c.toNat=45:=(by omega);simp only[c1,c2,or_self,if_false,hm,not_false_eq_true,true_and,false_and];rw[if_neg (by omega)]
  unfold atoiN;rw[ha];exact h2
theorem split_go:∀(k:Nat) (l:List UInt8),l.count 46≤k→Lib.splitK [46] 0 k l=spl l
 | 0,l,h=>by
  have hm:(46:UInt8)∉l:=by
   intro hm;have:=List.count_pos_iff.2 hm;omega
  rw[Lib.splitK,spl_out hm]
 | k+1,l,h=>by
  rw[Lib.splitK,Lib.index_one];by_cases hm:(46:UInt8)∈l
  ·obtain⟨a,r,h1,rfl⟩:=first_at hm;have hne:((a.length:Int)== -1)=false:=(by rw[beq_eq_false_iff_ne];omega);rw[ib_in h1,hne,spl_in h1];simp only[Bool.false_eq_true,if_false,Int.toNat_natCast,Nat.add_zero,List.length_singleton];rw[List.take_left',show(a++46::r).drop (a.length+1)=r by simp,split_go k r]
   ·have:(a++46::r).count 46=r.count 46+1:=by
     rw[List.count_append,List.count_eq_zero_of_not_mem h1,List.count_cons_self];omega
    omega
   ·rfl
  ·rw[ib_out hm,spl_out hm];rfl
end Go.Proofs.YtgipehooceecpaaGreatDoorAbs
