/- PruneAgain. -/
import Derived.Test.YtgipehooceecpaaGreatDoorPa7
import Derived.Test.YtgipehooceecpaaGreatDoorRows
import Derived.Deep.DeepHandedRow
import Derived.Deep.DeepWitnessRowRef
import Derived.Lib.LaidIn
import Derived.Stop.LaidErr
import Derived.Shelf.Vars
import Derived.MakeChecks
import Derived.OpenShut
import Derived.ChangeBears2
import Derived.Test.YtgipehooceecpaaGreatDoorPa2
namespace Go.Proofs.YtgipehooceecpaaGreatDoorAbs
set_option linter.unusedSimpArgs false
set_option linter.unusedVariables false
open Go Go.RowKit Go.Proofs
set_option maxRecDepth 100000
theorem two_of {α:Type} :∀ {l:List α},l.length=2→∃a b,l=[a,b]
 | [a,b],_=>⟨a,b,rfl⟩
theorem five_of {α:Type} :∀ {l:List α},l.length=5→∃a b c d e,l=[a,b,c,d,e]
 | [a,b,c,d,e],_=>⟨a,b,c,d,e,rfl⟩
theorem ten_of {α:Type} :∀ {l:List α},l.length=10→∃a b c d e f g h i j,l=[a,b,c,d,e,f,g,h,i,j]
 | [a,b,c,d,e,f,g,h,i,j],_=>⟨a,b,c,d,e,f,g,h,i,j,rfl⟩
theorem pair212 {enc:TypeId×Value→Unit} {w:World} {base fuel:Nat} {sp:Nat→Bool} {held:Bool} {cs:List Value} {x:DataW Unit×List MemPlace} {n:Int} {b:List UInt8}
  (h:DataW.trod enc Tryz.prog w base sp held fuel 212 cs=some x) (hx:x.1=.agg [.lit (.int .i64 n),.lit (.string b)]):cs=[.int .i64 n,.string (ofL b)]:=by
 have hu:∃fs:Array Field,Tryz.prog.underlying 212=some (.struct fs)∧fs.size=2∧(fs[0]?.map fun f=>(f.type,f.offset))=some (85,0)∧(fs[1]?.map fun f=>(f.type,f.offset))=some (9,1):=by
  have hk:(match Tryz.prog.underlying 212 with | some (.struct fs)=>fs.size==2&&((fs[0]?.map fun f=>(f.type,f.offset))==some (85,0)&&(fs[1]?.map fun f=>(f.type,f.offset))==some (9,1)) | _=>false)=true:=(by kernel_rfl);split at hk
  ·rename_i fs hf;simp only[Bool.and_eq_true,beq_iff_eq]at hk;exact⟨fs,hf,hk.1,hk.2.1,hk.2.2⟩
  ·cases hk
 obtain⟨fs,hf,h2,f0,f1⟩:=hu;obtain⟨xs,m,rfl,rfl,hl,hxl,hat⟩:=DataW.trod_struct hf h;obtain⟨g0,hg0,e0⟩:=Option.map_eq_some_iff.1 f0;obtain⟨g1,hg1,e1⟩:=Option.map_eq_some_iff.1 f1;injection e0 with e00 e01;injection e1 with e10 e11;have a0:=hat 0 g0 hg0;have a1:=hat 1 g1 hg1;rw[e00,e01]at a0;rw[e10,e11]at a1;have c85:Tryz.prog.cellsOf 85=1:=(by kernel_rfl);have c9:Tryz.prog.cellsOf 9=1:=(by kernel_rfl);have c212:Tryz.prog.cellsOf 212=2:=(by kernel_rfl);have u85:Tryz.prog.underlying 85=some (.int .i64):=(by kernel_rfl);have u9:Tryz.prog.underlying 9=some .string:=(by kernel_rfl);rw[c85]at a0;rw[c9]at a1;rw[c212]at hl;injection hx with hx;rw[h2]at hxl;obtain⟨x0,x1,rfl⟩:=two_of hxl;obtain⟨p,q,rfl⟩:=two_of hl;simp at a0 a1 hx;obtain⟨k,hc0,hx0,_⟩:=DataW.trod_int u85 a0;obtain⟨s,hc1,hx1,_⟩:=DataW.trod_string u9 a1;subst hx0;subst hx1;simp at hc0 hc1 hx;subst hc0;subst hc1;obtain⟨rfl,h3⟩:=hx;rw[←h3];simp[ofL]
theorem signs_cells {enc:TypeId×Value→Unit} {w:World} {base fuel:Nat} {sp:Nat→Bool} {held:Bool} {cs:List Value} {p:List MemPlace}
  (h:DataW.trod enc Tryz.prog w base sp held fuel 213 cs=some (Proofs.YtgipehooceecpaaGreatDoor.Rows.laid_hogget_span_signs,p)):cs=signsV:=by
 have u213:Tryz.prog.underlying 213=some (.array 5 212):=(by kernel_rfl);have c212:Tryz.prog.cellsOf 212=2:=(by kernel_rfl);have c213:Tryz.prog.cellsOf 213=10:=(by kernel_rfl);obtain⟨xs,m,rfl,hx,hl,hxl,hat⟩:=DataW.trod_array u213 h;rw[c212]at hat;rw[c213]at hl;have hx1:=congrArg Prod.fst hx;simp only at hx1;unfold Proofs.YtgipehooceecpaaGreatDoor.Rows.laid_hogget_span_signs at hx1;injection hx1 with hx1;obtain⟨x0,x1,x2,x3,x4,rfl⟩:=five_of hxl;obtain⟨d0,d1,d2,d3,d4,d5,d6,d7,d8,d9,rfl⟩:=ten_of hl;simp at hx1;obtain⟨y0,y1,y2,y3,y4⟩:=hx1;have b0:=pair212 (hat 0 (by omega)) y0.symm;have b1:=pair212 (hat 1 (by omega)) y1.symm;have b2:=pair212 (hat 2 (by omega)) y2.symm;have b3:=pair212 (hat 3 (by omega)) y3.symm;have b4:=pair212 (hat 4 (by omega)) y4.symm;simp at b0 b1 b2 b3 b4;simp[signsV,b0,b1,b2,b3,b4,ofL]
set_option maxRecDepth 100000
theorem maxLen_le {n:Nat} (h:n≤maxLen):n≤9223372036854775807:=h
def laidL:List (String×DataW Unit):=Proofs.YtgipehooceecpaaGreatDoor.Rows.validAloneRow.laid
theorem var_ext {w w':World} (h:ExtC (fun _=>False) w w') {n:String} {cs:Array Value} (hv:w.var? Tryz.prog n=some cs):w'.var? Tryz.prog n=some cs:=by
 unfold World.var? at hv⊢;cases hg:Tryz.prog.globalNamed n with
 | none=>rw[hg]at hv;cases hv
 | some g=>
  rw[hg]at hv;simp only[Option.bind_some]at hv⊢;cases ho:w.heap[g]? with
  | none=>rw[ho]at hv;cases hv
  | some o=>
   rw[ho]at hv;cases o<;>simp at hv;subst hv;rw[h.same g _ ho rfl (fun h=>h)]
theorem cell_ext {w w':World} (h:ExtC (fun _=>False) w w') {a:Addr} {v:Value} (hv:w.cell? a=some v):w'.cell? a=some v:=by
 unfold World.cell? at hv⊢;cases ho:w.heap[a.block]? with
 | none=>rw[ho]at hv;cases hv
 | some o=>
  rw[ho]at hv;cases o<;>simp at hv;rw[h.same a.block _ ho rfl (fun h=>h)];simpa using hv
theorem gl_ext {w w':World} (h:ExtC (fun _=>False) w w') (hg:Gl.ok Tryz.prog w):Gl.ok Tryz.prog w':=by
 obtain⟨h1,⟨a,b,h2⟩,⟨c,d,h3⟩,⟨m,h4⟩,h5⟩:=hg;exact⟨var_ext h h1,⟨a,b,var_ext h h2⟩,⟨c,d,var_ext h h3⟩,⟨m,cell_ext h h4⟩,fun i v hv=>cell_ext h (h5 i v hv)⟩
theorem star: "*"++ "errors.errorString"= "*errors.errorString":=by decide
theorem row287 (u:TypeId) (h:Tryz.prog.typeName? 3 u=some "*errors.errorString"):u=287:=
 typeName_ptr_named (nm:= "errors.errorString") (by rw[star];kernel_rfl) (by kernel_rfl) (by decide) u (by rw[star];exact h)
theorem und223:∃ms,Tryz.prog.underlying 223=some (.interface ms):=by
 have h:(Tryz.prog.underlying 223).any (fun | .interface _=>true | _=>false)=true:=(by kernel_rfl);cases hu:Tryz.prog.underlying 223 with
 | none=>rw[hu]at h;cases h
 | some x=>rw[hu]at h;cases x<;>first | exact⟨_,rfl⟩ | cases h
theorem gl_of {W:World} (hL:laidMetH Tryz.prog laidL W) (hsh:W.ShapedOpen Tryz.prog):Gl.ok Tryz.prog W:=by
 rw[MakeChecks.laidMetH_plain _ _ _ (by kernel_rfl)]at hL;have h3:=hL.tail.tail;have h5:=h3.tail.tail;have h6:=h5.tail;have h7:=h6.tail;obtain⟨ms,hi⟩:=und223;obtain⟨a5,s5,v5,_⟩:=laid_sentinel h5 (g:=6) (ti:=223) (tp:=287) (te:=289) (ts:=9) (by kernel_rfl) (by kernel_rfl) hi row287 (by kernel_rfl) Tryz.underlying289 rfl rfl (by kernel_rfl) (by kernel_rfl) (by kernel_rfl);obtain⟨a6,s6,v6,_⟩:=laid_sentinel h6 (g:=5) (ti:=223) (tp:=287) (te:=289) (ts:=9) (by kernel_rfl) (by kernel_rfl) hi row287 (by kernel_rfl) Tryz.underlying289 rfl rfl (by kernel_rfl) (by kernel_rfl) (by kernel_rfl);refine⟨?_,⟨_,_,v6⟩,⟨_,_,v5⟩,?_,?_⟩
 ·exact Lib.tabIs_of_head (g:=2) (t:=260) (e:=210) (n:=20) (by kernel_rfl) (by kernel_rfl) (by kernel_rfl) (by kernel_rfl) (by kernel_rfl) (by kernel_rfl) h3
 ·exact cell_of_shapedOpen_int (t:=3) (zero:= #[.int .i64 0]) hsh (of_decide_eq_true (by kernel_rfl)) (by kernel_rfl) rfl (by kernel_rfl) (by kernel_rfl) (by kernel_rfl)
 ·have hg0:Tryz.prog.globalNamed "hogget/span.signs"=some 0:=(by kernel_rfl);have hty:(Tryz.prog.globals[0]?).map (·.type)=some 213:=(by kernel_rfl);obtain⟨ps,⟨g',t',cs,fuel,p,q,hg',ht',hvar,hd,_,_⟩,_⟩:=h7;obtain rfl:=Option.some.inj (hg0.symm.trans hg');obtain rfl:=Option.some.inj (hty.symm.trans ht');have hcs:=signs_cells hd;intro i v hv;rw[World.var?_cell hg0 hvar i];have:cs[i]? =cs.toList[i]? :=(by simp);rw[this,hcs];exact hv
def litsOf:DataW Unit→List Value
 | .agg l=>l.filterMap fun | .lit (.int k n)=>some (.int k n) | _=>none
 | _=>[]
def lits2Of:DataW Unit→List Value
 | .agg l=>l.flatMap litsOf
 | _=>[]
noncomputable def low:Nat:=(World.holding Tryz.prog default ⟨#[], #[],[]⟩).heap.size
noncomputable def laidWorld (os:Os):World:=
 let w0:=World.holding Tryz.prog os ⟨#[.cells #[.string ⟨#[118,97,108,117,101,32,111,117,116,32,111,102,32,114,97,110,103,101]⟩] 289,.cells #[.string ⟨#[105,110,118,97,108,105,100,32,115,121,110,116,97,120]⟩] 289], #[],[]⟩
 let put (h:Array Obj) (g:Nat) (cs:List Value):Array Obj:=h.modify g fun
  | .cells _ t frozen=> .cells cs.toArray t frozen
  | o=>o
 let h0:=put w0.heap 0 signsV
 let h1:=put h0 2 (litsOf Proofs.YtgipehooceecpaaGreatDoor.Rows.laid_internal_strconv_uint64pow10)
 let h2:=put h1 3 (litsOf Proofs.YtgipehooceecpaaGreatDoor.Rows.laid_unicode_utf8_first)
 let h3:=put h2 4 (lits2Of Proofs.YtgipehooceecpaaGreatDoor.Rows.laid_unicode_utf8_acceptRanges)
 let h4:=put h3 5 [.iface 287 (.pointer (some ⟨low+1,0,none⟩))]
 let h5:=put h4 6 [.iface 287 (.pointer (some ⟨low,0,none⟩))]
 let h6:=put h5 7 (litsOf Proofs.YtgipehooceecpaaGreatDoor.Rows.laid_math_bits_deBruijn32tab)
 let h7:=put h6 8 (litsOf Proofs.YtgipehooceecpaaGreatDoor.Rows.laid_math_bits_deBruijn64tab)
 {w0 with heap:=h7}
theorem laid_met (os:Os) (args:Array Value):laidMet Tryz.prog laidL ((laidWorld os).forCall (fun _ _=>0) ⟨#[],args,[]⟩).memory:=
 laidMet_of_run' 8 (by kernel_rfl) (by kernel_rfl)
set_option maxRecDepth 100000
set_option maxHeartbeats 400000
structure Cmp {α:Type} (f:α→α→Int):Prop where
 anti:∀a b,f b a= -f a b
 trans:∀a b c,f a b<0→f b c<0→f a c<0
 cong:∀a b c,f a b=0→f b c=f a c
def lexN {α:Type} (f g:α→α→Int) (a b:α):Int:=if f a b=0 then g a b else f a b
theorem Cmp.cong' {α:Type} {f:α→α→Int} (h:Cmp f) {a b c:α} (e:f b c=0):f a b=f a c:=by
 have h1:=h.anti b c;have h2:=h.cong c b a (by omega);have h3:=h.anti a b;have h4:=h.anti a c;omega
theorem Cmp.lex {α:Type} {f g:α→α→Int} (hf:Cmp f) (hg:Cmp g):Cmp (lexN f g):=by
 refine⟨fun a b=> ?_,fun a b c h1 h2=> ?_,fun a b c h=> ?_⟩
 ·have h1:=hf.anti a b;have h2:=hg.anti a b;unfold lexN;by_cases h:f a b=0
  ·rw[if_pos h,if_pos (by omega)];exact h2
  ·rw[if_neg h,if_neg (by omega)];exact h1
 ·unfold lexN at*;by_cases e1:f a b=0
  ·rw[if_pos e1]at h1;have:=hf.cong a b c e1;by_cases e2:f b c=0
   ·rw[if_pos e2]at h2;rw[if_pos (by omega)];exact hg.trans a b c h1 h2
   ·rw[if_neg e2]at h2;rw[if_neg (by omega)];omega
  ·rw[if_neg e1]at h1;by_cases e2:f b c=0
   ·have:=hf.cong' (a:=a) e2;rw[if_neg (by omega)];omega
   ·rw[if_neg e2]at h2;have:=hf.trans a b c h1 h2;rw[if_neg (by omega)];exact this
 ·unfold lexN at*;by_cases e1:f a b=0
  ·rw[if_pos e1]at h;have h1:=hf.cong a b c e1;have h2:=hg.cong a b c h;rw[h1,h2]
  ·rw[if_neg e1]at h;exact absurd h e1
theorem Cmp.on {α β:Type} {f:α→α→Int} (hf:Cmp f) (k:β→α):Cmp (fun a b=>f (k a) (k b)):=
 ⟨fun a b=>hf.anti _ _,fun a b c=>hf.trans _ _ _,fun a b c=>hf.cong _ _ _⟩
theorem cmpI_anti (a b:Int):cmpI b a= -cmpI a b:=by
 unfold cmpI;rcases Int.lt_trichotomy a b with h | h | h
 ·rw[if_neg (by omega),if_pos h,if_pos h];rfl
 ·subst h;simp
 ·rw[if_pos h,if_neg (by omega),if_pos h]
theorem cmpI_neg {a b:Int} :cmpI a b<0↔a<b:=by
 unfold cmpI;rcases Int.lt_trichotomy a b with h | h | h
 ·rw[if_pos h];exact⟨fun _=>h,fun _=>by decide⟩
 ·rw[if_neg (by omega),if_neg (by omega)];exact⟨fun h=>by omega,fun h=>by omega⟩
 ·rw[if_neg (by omega),if_pos h];exact⟨fun h=>by omega,fun h=>by omega⟩
theorem cmpI_zero {a b:Int} :cmpI a b=0↔a=b:=by
 unfold cmpI;rcases Int.lt_trichotomy a b with h | h | h
 ·rw[if_pos h];exact⟨fun h=>by omega,fun h=>by omega⟩
 ·rw[if_neg (by omega),if_neg (by omega)];exact⟨fun _=>h,fun _=>rfl⟩
 ·rw[if_neg (by omega),if_pos h];exact⟨fun h=>by omega,fun h=>by omega⟩
theorem cmpI_cmp:Cmp cmpI:=
 ⟨cmpI_anti,fun a b c h1 h2=>cmpI_neg.2 (Int.lt_trans (cmpI_neg.1 h1) (cmpI_neg.1 h2)),fun a b c h=>by rw[cmpI_zero.1 h]⟩
theorem cmpB_neg {a b:Bs} :cmpB a b<0↔ltB a b=true:=by
 unfold cmpB;by_cases h:ltB a b=true
 ·rw[if_pos h];exact⟨fun _=>h,fun _=>by decide⟩
 ·rw[if_neg h];split
  ·exact⟨fun h=>by omega,fun e=>absurd e h⟩
  ·exact⟨fun h=>by omega,fun e=>absurd e h⟩
theorem cmpB_anti (a b:Bs):cmpB b a= -cmpB a b:=by
 unfold cmpB;by_cases h:ltB a b=true
 ·rw[ltB_asym h,h];rfl
 ·have h':ltB a b=false:=(by simpa using h);rw[h'];by_cases h2:ltB b a=true
  ·rw[h2];rfl
  ·have h2':ltB b a=false:=(by simpa using h2);rw[h2'];rfl
theorem cmpB_cmp:Cmp cmpB:=
 ⟨cmpB_anti,fun a b c h1 h2=>cmpB_neg.2 (ltB_trans (cmpB_neg.1 h1) (cmpB_neg.1 h2)),fun a b c h=>by rw[cmpB_zero.1 h]⟩
def clsP (a:Bs):Int:=if numP (bsL a)=true then 0 else 1
def numK (a:Bs):Int:=if numP (bsL a)=true then atoiN (bsL a)else 0
def txtK (a:Bs):Bs:=if numP (bsL a)=true then⟨#[]⟩else a
theorem partsN_lex:partsN=lexN (fun a b=>cmpI (clsP a) (clsP b)) (lexN (fun a b=>cmpI (numK a) (numK b)) (fun a b=>cmpB (txtK a) (txtK b))):=by
 funext a b;unfold partsN lexN clsP numK txtK;by_cases h1:numP (bsL a)=true
 ·by_cases h2:numP (bsL b)=true
  ·simp only[if_pos h1,if_pos h2,cmpI_self,if_true];by_cases h:cmpI (atoiN (bsL a)) (atoiN (bsL b))=0
   ·rw[if_pos h,cmpB_self,h]
   ·rw[if_neg h]
  ·simp only[if_pos h1,if_neg h2];rw[show cmpI 0 1= -1 from by decide,if_neg (by decide)]
 ·by_cases h2:numP (bsL b)=true
  ·simp only[if_neg h1,if_pos h2];rw[show cmpI 1 0=1 from by decide,if_neg (by decide)]
  ·simp only[if_neg h1,if_neg h2,cmpI_self,if_true]
theorem partsN_cmp:Cmp partsN:=by
 rw[partsN_lex];exact(cmpI_cmp.on clsP).lex ((cmpI_cmp.on numK).lex (cmpB_cmp.on txtK))
theorem rowsN_cons (a b:Bs) (x y:List Bs):rowsN (a::x) (b::y)=if partsN a b=0 then rowsN x y else partsN a b:=by rw[rowsN]
theorem rowsN_nl (x:List Bs):rowsN [] x=cmpI 0 x.length:=by rw[rowsN];rfl;exact fun _ _ _ _ h=>by cases h
theorem rowsN_nr (x:List Bs):rowsN x []=cmpI x.length 0:=by
 cases x with
 | nil=>rfl
 | cons a x=>rfl
theorem rowsN_anti:∀x y,rowsN y x= -rowsN x y
 | [],y=>by rw[rowsN_nl,rowsN_nr];exact cmpI_anti _ _
 | x,[]=>by rw[rowsN_nl,rowsN_nr];exact cmpI_anti _ _
 | a::x,b::y=>by
  have h1:=partsN_cmp.anti a b;have h2:=rowsN_anti x y;rw[rowsN_cons,rowsN_cons];by_cases h:partsN a b=0
  ·rw[if_pos h,if_pos (by omega)];exact h2
  ·rw[if_neg h,if_neg (by omega)];exact h1
theorem rowsN_nl_neg {x:List Bs} :rowsN [] x<0↔x≠[]:=by
 rw[rowsN_nl,cmpI_neg];cases x with
 | nil=>simp
 | cons a x=>simp only[List.length_cons,ne_eq,reduceCtorEq,not_false_iff,iff_true];omega
theorem rowsN_nr_neg {x:List Bs} :¬rowsN x []<0:=by
 rw[rowsN_nr,cmpI_neg];omega
theorem rowsN_trans:∀x y z,rowsN x y<0→rowsN y z<0→rowsN x z<0
 | x,[],z,h1,_=>absurd h1 rowsN_nr_neg
 | x,y,[],_,h2=>absurd h2 rowsN_nr_neg
 | [],b::y,c::z,_,_=>rowsN_nl_neg.2 (by simp)
 | a::x,b::y,c::z,h1,h2=>by
  rw[rowsN_cons]at h1 h2⊢;by_cases e1:partsN a b=0
  ·rw[if_pos e1]at h1;have:=partsN_cmp.cong a b c e1;by_cases e2:partsN b c=0
   ·rw[if_pos e2]at h2;rw[if_pos (by omega)];exact rowsN_trans x y z h1 h2
   ·rw[if_neg e2]at h2;rw[if_neg (by omega)];omega
  ·rw[if_neg e1]at h1;by_cases e2:partsN b c=0
   ·have:=partsN_cmp.cong' (a:=a) e2;rw[if_neg (by omega)];omega
   ·rw[if_neg e2]at h2;have:=partsN_cmp.trans a b c h1 h2;rw[if_neg (by omega)];exact this
theorem rowsN_cong:∀x y z,rowsN x y=0→rowsN y z=rowsN x z
 | [],[],z,_=>rfl
 | [],b::y,z,h=>absurd (rowsN_nl_neg.2 (by simp:b::y≠[])) (by omega)
 | a::x,[],z,h=>by
  have:=rowsN_anti [] (a::x);have h2:=rowsN_nl_neg.2 (by simp:a::x≠[]);omega
 | a::x,b::y,[],h=>by
  have e1:=rowsN_anti [] (a::x);have e2:=rowsN_anti [] (b::y);rw[rowsN_nl,cmpI,if_pos (by simp only[List.length_cons];omega)]at e1 e2;rw[e1,e2]
 | a::x,b::y,c::z,h=>by
  rw[rowsN_cons]at h;rw[rowsN_cons,rowsN_cons];by_cases e1:partsN a b=0
  ·rw[if_pos e1]at h;rw[partsN_cmp.cong a b c e1,rowsN_cong x y z h]
  ·rw[if_neg e1]at h;exact absurd h e1
theorem rowsN_cmp:Cmp rowsN:=⟨rowsN_anti,rowsN_trans,rowsN_cong⟩
def lastP (a:Bs):Int:=if a=⟨#[]⟩then 1 else 0
def rowsP (a:Bs):List Bs:=if a=⟨#[]⟩then[]else strs (spl (bsL a))
def verL:Ver→Ver→Int:=lexN (fun a b=>cmpI a.maj b.maj) (lexN (fun a b=>cmpI a.min b.min) (lexN (fun a b=>cmpI a.pat b.pat) (lexN (fun a b=>cmpI (lastP a.pre) (lastP b.pre)) (fun a b=>rowsN (rowsP a.pre) (rowsP b.pre)))))
theorem verL_cmp:Cmp verL:=
 (cmpI_cmp.on Ver.maj).lex ((cmpI_cmp.on Ver.min).lex ((cmpI_cmp.on Ver.pat).lex ((cmpI_cmp.on fun v:Ver=>lastP v.pre).lex (rowsN_cmp.on fun v:Ver=>rowsP v.pre))))
theorem comparN_verL {a b:Ver} (ha:verOk a=true) (hb:verOk b=true):comparN a b=verL a b:=by
 unfold comparN;rw[if_pos ⟨ha,hb⟩];unfold verL lexN coreN;by_cases h1:cmpI a.maj b.maj=0
 ·by_cases h2:cmpI a.min b.min=0
  ·by_cases h3:cmpI a.pat b.pat=0
   ·simp only[h1,h2,h3,ne_eq,not_true,if_false,if_true,false_or];by_cases e:a.pre=b.pre
    ·rw[if_pos e,e,cmpI_self,if_pos rfl,rowsN_self]
    ·rw[if_neg e];unfold lastP rowsP;by_cases e1:a.pre=⟨#[]⟩
     ·have e2:¬b.pre=⟨#[]⟩:=fun h=>e (by rw[e1,h]);simp only[if_pos e1,if_neg e2];rw[show cmpI 1 0=1 from by decide,if_neg (by decide)]
     ·by_cases e2:b.pre=⟨#[]⟩
      ·simp only[if_pos e2,if_neg e1];rw[show cmpI 0 1= -1 from by decide,if_neg (by decide)]
      ·simp only[if_neg e1,if_neg e2,cmpI_self,if_true]
   ·simp only[h1,h2,h3,ne_eq,not_true,not_false_iff,if_false,if_true,true_or]
  ·simp only[h1,h2,ne_eq,not_true,not_false_iff,if_false,if_true,true_or]
 ·simp only[h1,ne_eq,not_false_iff,if_false,if_true,true_or]
def manL:Man→Man→Int:=lexN (fun a b=>cmpB a.name b.name) (fun a b=>verL a.ver b.ver)
theorem manL_cmp:Cmp manL:=(cmpB_cmp.on Man.name).lex (verL_cmp.on Man.ver)
theorem manOrd_L {a b:Man} (ha:verOk a.ver=true) (hb:verOk b.ver=true):manOrd a b=manL a b:=by
 have e:manL a b=if cmpB a.name b.name=0 then verL a.ver b.ver else cmpB a.name b.name:=rfl;rw[e,←comparN_verL ha hb];simp only[manOrd,orN];by_cases h:cmpB a.name b.name=0
 ·rw[if_pos h,if_pos h];split
  ·rename_i h;exact h.symm
  ·rfl
 ·rw[if_neg h,if_neg h]
theorem manCheck_ver {m:Man} {b:Bool} (h:manCheck m b=0):verOk m.ver=true:=by
 unfold manCheck at h;split at h
 ·cases h
 ·split at h
  ·rename_i h1;simp only[manRight,manHead,Bool.and_eq_true]at h1;exact h1.1.1
  ·cases h
theorem idx_iff {L:List Man} :idxCheck L=0↔L.length≤100∧(∀m∈L,manCheck m false=0)∧L.Pairwise fun a b=>manL a b<0:=by
 have hv:(∀m∈L,manCheck m false=0)→∀i,i<L.length→verOk (nth L i).ver=true:=fun h i hi=>manCheck_ver (h _ (nth_mem hi));unfold idxCheck;constructor
 ·intro h;split at h
  ·cases h
  ·rename_i hl;split at h
   ·rename_i ha;rw[List.all_eq_true]at ha;have hc:∀m∈L,manCheck m false=0:=fun m hm=>by
     obtain⟨i,hi,rfl⟩:=List.mem_iff_getElem.1 hm;have:=ha i (List.mem_range.2 hi);simp only[idxAt,Bool.and_eq_true,decide_eq_true_eq]at this;rw[←nth_eq hi];exact this.1
    refine⟨by omega,hc,?_⟩;have hstep:∀i,i+1<L.length→manL (nth L i) (nth L (i+1))<0:=fun i hi=>by
     have:=ha (i+1) (List.mem_range.2 hi);simp only[idxAt,Bool.and_eq_true,Bool.or_eq_true,decide_eq_true_eq,Nat.add_sub_cancel]at this;rcases this.2 with h | h
     ·omega
     ·rw[←manOrd_L (hv hc i (by omega)) (hv hc (i+1) hi)];exact h
    have hall:∀d i,i+d+1<L.length→manL (nth L i) (nth L (i+d+1))<0:=by
     intro d;induction d with
     | zero=>exact fun i hi=>hstep i hi
     | succ d ih=>exact fun i hi=>manL_cmp.trans _ _ _ (ih i (by omega)) (hstep (i+d+1) hi)
    rw[List.pairwise_iff_getElem];intro i j hi hj hij;obtain⟨d,rfl⟩:∃d,j=i+d+1:=⟨j-i-1,by omega⟩;have:=hall d i hj;rw[nth_eq hi,nth_eq hj]at this;exact this
   ·cases h
 ·rintro⟨hl,hc,hp⟩;rw[if_neg (by omega),if_pos];rw[List.all_eq_true];intro i hi;have hi:=List.mem_range.1 hi;simp only[idxAt,Bool.and_eq_true,Bool.or_eq_true,decide_eq_true_eq];refine⟨hc _ (nth_mem hi),?_⟩;by_cases h0:i=0
  ·exact .inl h0
  ·right;rw[manOrd_L (hv hc _ (by omega)) (hv hc _ hi),nth_eq hi,nth_eq (by omega:i-1<L.length)];exact List.pairwise_iff_getElem.1 hp _ _ _ _ (by omega)
theorem idx_filter {L:List Man} {p:Man→Bool} (h:idxCheck L=0):idxCheck (L.filter p)=0:=by
 obtain⟨h1,h2,h3⟩:=idx_iff.1 h;exact idx_iff.2 ⟨Nat.le_trans (List.length_filter_le _ _) h1,fun m hm=>h2 _ (List.mem_filter.1 hm).1,h3.filter _⟩
theorem bigR_sz {r:Rg} (h:bigR r=false):r.length≤20∧(∀l∈r,l.length≤20∧∀b∈l,b.ver.pre.size≤300):=by
 simp only[bigR,Bool.or_eq_false_iff,decide_eq_false_iff_not,List.any_eq_false]at h;refine⟨by omega,fun l hl=> ?_⟩;have h2:bigA l=false:=(by simpa using h.2 l hl);simp only[bigA,Bool.or_eq_false_iff,decide_eq_false_iff_not,List.any_eq_false]at h2;exact⟨by omega,fun b hb=>by
  have h3:bigB b=false:=(by simpa using h2.2 b hb);simp only[bigB,decide_eq_false_iff_not]at h3;omega⟩
theorem bigR_rsz {r:Rg} (h:bigR r=false):Rg.sz r:=by
 obtain⟨h1,h2⟩:=bigR_sz h;exact⟨by omega,fun l hl=>⟨by have:=(h2 l hl).1;omega,fun b hb=>by have:=(h2 l hl).2 b hb;omega⟩⟩
theorem bigM_dsz {m:Man} (h:bigM m=false):m.name.size≤300∧m.ver.pre.size≤300∧(m.deps.length≤40∧∀d∈m.deps,d.name.size≤300∧bigR d.range=false)∧(m.rules.length≤40∧∀d∈m.rules,d.name.size≤300∧bigR d.range=false):=by
 simp only[bigM,Bool.or_eq_false_iff,decide_eq_false_iff_not,List.any_eq_false]at h;obtain⟨⟨⟨⟨⟨h1,h2⟩,h3⟩,h4⟩,h5⟩,h6⟩:=h;refine⟨by omega,by omega,⟨by omega,fun d hd=> ?_⟩,by omega,fun d hd=> ?_⟩
 ·have:=h5 d hd;simp only[bigD,Bool.or_eq_true,decide_eq_true_eq,not_or,Bool.not_eq_true]at this;exact⟨by omega,this.2⟩
 ·have:=h6 d hd;simp only[bigU,Bool.or_eq_true,decide_eq_true_eq,not_or,Bool.not_eq_true]at this;exact⟨by omega,this.2⟩
theorem bigM_sz {m:Man} (h:bigM m=false):Man.sz m:=by
 obtain⟨h1,h2,⟨h3,h4⟩,h5,h6⟩:=bigM_dsz h;exact⟨by omega,by omega,⟨by omega,fun d hd=>⟨by have:=(h4 d hd).1;omega,bigR_rsz (h4 d hd).2⟩⟩,by omega,fun d hd=>⟨by have:=(h6 d hd).1;omega,bigR_rsz (h6 d hd).2⟩⟩
theorem bigT_len {t:List Pl} (h:bigT t=false):t.length≤210∧(t.length≤40∨200<t.length)∧∀p∈t,p.name.size≤300∧p.ver.pre.size≤300:=by
 simp only[bigT,Bool.or_eq_false_iff,decide_eq_false_iff_not,List.any_eq_false]at h;refine⟨by omega,by omega,fun p hp=> ?_⟩;have:=h.2 p hp;simp only[bigP,bigV,Bool.or_eq_true,decide_eq_true_eq,not_or]at this;exact⟨by omega,by omega⟩
theorem bigT_ok {t:List Pl} (h:bigT t=false):OKs t:=by
 obtain⟨h1,_,h3⟩:=bigT_len h;exact⟨by omega,fun p hp=>by have:=h3 p hp;omega⟩
theorem bigI_sz {L:List Man} (h:bigI L=false):L.length≤110∧∀m∈L,bigM m=false:=by
 simp only[bigI,Bool.or_eq_false_iff,decide_eq_false_iff_not,List.any_eq_false]at h;exact⟨by omega,fun m hm=>by simpa using h.2 m hm⟩
set_option maxRecDepth 100000
set_option maxHeartbeats 400000
theorem bigM_okS {m:Man} (h:bigM m=false):Man.okS m:=by
 obtain⟨h1,h2,⟨h3,h4⟩,h5,h6⟩:=bigM_dsz h;refine⟨⟨by omega,fun d hd=> ?_⟩,by omega,fun d hd=> ?_⟩
 ·obtain⟨a,b⟩:=h4 d hd;obtain⟨c,e⟩:=bigR_sz b;exact⟨by omega,by omega,fun l hl=>by have:=(e l hl).1;omega⟩
 ·obtain⟨a,b⟩:=h6 d hd;obtain⟨c,e⟩:=bigR_sz b;exact⟨by omega,fun l hl=>by have:=(e l hl).1;omega⟩
theorem bigW_sz {root:Man} {L:List Man} {t:List Pl} (h:bigW root L t=false):bigM root=false∧bigI L=false∧bigT t=false:=by
 simpa [bigW]using h
theorem valSz_of {root:Man} {L:List Man} {t:List Pl} (h1:bigM root=false) (h2:bigI L=false) (h3:bigT t=false):ValSz root L t:=by
 obtain⟨a,b⟩:=bigI_sz h2;obtain⟨c,_,d⟩:=bigT_len h3;exact⟨bigM_sz h1,bigM_okS h1,⟨by omega,fun m hm=>bigM_sz (b m hm)⟩,fun m hm=>bigM_okS (b m hm),bigT_ok h3,fun p hp=>by have:=d p hp;omega⟩
theorem bigI_filter {L:List Man} {p:Man→Bool} (h:bigI L=false):bigI (L.filter p)=false:=by
 obtain⟨a,b⟩:=bigI_sz h;have:=List.length_filter_le p L;simp only[bigI,Bool.or_eq_false_iff,decide_eq_false_iff_not,List.any_eq_false];exact⟨by omega,fun m hm=>by simpa using b m (List.mem_filter.1 hm).1⟩
theorem codeV_zero {root:Man} {L:List Man} {t:List Pl} :codeV root L t=0↔manCheck root true=0∧idxCheck L=0∧checkN t=0:=by
 simp only[codeV,valCodes,orN];constructor
 ·intro h;split at h
  ·split at h
   ·split at h
    ·exact⟨by assumption,by assumption,by assumption⟩
    ·exact absurd h (by assumption)
   ·exact absurd h (by assumption)
  ·exact absurd h (by assumption)
 ·rintro⟨h1,h2,h3⟩;rw[if_pos h1,if_pos h2,if_pos h3]
def namedT (t:List Pl) (m:Man):Bool:=t.any fun p=>decide (p.name=m.name)
theorem find_filter {L:List Man} {t:List Pl} {i:Nat} (hi:i<t.length):findM (L.filter (namedT t)) (nth t i).name (nth t i).ver=findM L (nth t i).name (nth t i).ver:=by
 unfold findM;rw[List.find?_filter];congr 1;funext m;cases h:hitM (nth t i).name (nth t i).ver m with
 | false=>simp
 | true=>
  simp only[hitM,Bool.and_eq_true,decide_eq_true_eq]at h;have:namedT t m=true:=List.any_eq_true.2 ⟨_,nth_mem hi,by simp[h.1]⟩;simp[this]
theorem manVal_filter {root:Man} {L:List Man} {t:List Pl} (i:Int):manVal root (L.filter (namedT t)) t i=manVal root L t i:=by
 unfold manVal;by_cases h:holdsF t i=true
 ·obtain⟨_,h0,h1⟩:=holdsF_inv h;rw[if_pos h,if_pos h];by_cases hz:i=0
  ·rw[if_pos hz,if_pos hz]
  ·rw[if_neg hz,if_neg hz,find_filter (by omega)]
 ·rw[if_neg h,if_neg h]
theorem wrongL_filter {root:Man} {L:List Man} {t:List Pl} :wrongL root (L.filter (namedT t)) t=wrongL root L t:=by
 unfold wrongL fineV;simp only[manVal_filter]
theorem names_plain {root:Man} {L:List Man} {t:List Pl} (h:codeV root L t=0):codeV root (L.filter (namedT t)) t=0:=by
 obtain⟨a,b,c⟩:=codeV_zero.1 h;exact codeV_zero.2 ⟨a,idx_filter b,c⟩
theorem below_all {t:List Pl} {n:Nat} (g:Good t) (hn:n<t.length):(n:Int)∈belowL t 0:=by
 have h:=below_mem (i:=0) g (by omega) hn;have hu:underF t n 0=true:=by
  have:∀(m:Nat) (j:Nat),j<m→j<t.length→underF t j 0=true:=by
   intro m;induction m with
   | zero=>exact fun j h=>by omega
   | succ m ih=>
    intro j hj hl;unfold underF;rw[up_step g.dn hl];by_cases h0:j=0
    ·subst h0;simp
    ·obtain⟨p0,p1⟩:=g.par j (by omega) hl;rw[if_neg (by omega)];have:=ih (parN t j).toNat (by omega) (by omega);unfold underF at this;rw[List.any_cons,this,Bool.or_true]
  exact this _ n (Nat.lt_succ_self n) hn
 obtain⟨x,hx,hxe⟩:=List.any_eq_true.1 (h.trans hu);simp only[decide_eq_true_eq]at hxe;rw[←hxe];exact hx
theorem wrong_mem {root:Man} {L:List Man} {t:List Pl} {n:Nat} (g:Good t) (hn:n<t.length):((wrongL root L t).any fun x=>decide (x=(n:Int)))= !fineV root L t n:=by
 rw[Bool.eq_iff_iff,List.any_eq_true];constructor
 ·rintro⟨x,hx,he⟩;simp only[decide_eq_true_eq]at he;subst he;exact(List.mem_filter.1 hx).2
 ·intro h;exact⟨n,List.mem_filter.2 ⟨below_all g hn,h⟩,by simp⟩
set_option maxRecDepth 100000
set_option maxHeartbeats 400000
def keptQ (q:Nat→Bool) (k:Nat):List Nat:=(List.range k).filter q
def rkQ (q:Nat→Bool) (j:Nat):Nat:=(keptQ q j).length
def renQ (q:Nat→Bool) (n:Int):Int:=if n<0 then n else rkQ q n.toNat
def keepP (t:List Pl) (q:Nat→Bool) (j:Nat):Pl:= {nth t j with par:=renQ q (parN t j)}
def keepT (t:List Pl) (q:Nat→Bool) (k:Nat):List Pl:=(keptQ q k).map (keepP t q)
structure Clo (t:List Pl) (q:Nat→Bool):Prop where
 zero:q 0=true
 par:∀j,1≤j→j<t.length→q j=true→q (parN t j).toNat=true
section
variable {q:Nat→Bool}
theorem rq_zero:rkQ q 0=0:=rfl
theorem kq_succ {k:Nat} :keptQ q (k+1)=keptQ q k++if q k=true then[k]else[]:=by
 unfold keptQ;rw[List.range_succ,List.filter_append];congr 1;cases h:q k<;>simp[h]
theorem rq_succ {k:Nat} :rkQ q (k+1)=rkQ q k+if q k=true then 1 else 0:=by
 unfold rkQ;rw[kq_succ,List.length_append];split<;>rfl
theorem rq_add {a:Nat} :∀d:Nat,rkQ q a≤rkQ q (a+d)∧rkQ q (a+d)≤rkQ q a+d
 | 0=>⟨Nat.le_refl _,Nat.le_refl _⟩
 | d+1=>by
  have:=rq_add (a:=a) d;rw[←Nat.add_assoc,rq_succ];split<;>omega
theorem rq_le {a:Nat} :rkQ q a≤a:=by
 have:=(rq_add (q:=q) (a:=0) a).2;rw[Nat.zero_add,rq_zero]at this;omega
theorem rq_mono {j k:Nat} (h:j≤k):rkQ q j≤rkQ q k:=by
 have:=(rq_add (q:=q) (a:=j) (k-j)).1
 rwa [Nat.add_sub_cancel' h]at this
theorem rq_lt {j k:Nat} (hu:q j=true) (h:j<k):rkQ q j<rkQ q k:=by
 have h1:=rq_mono (q:=q) (j:=j+1) (k:=k) (by omega);rw[rq_succ,hu]at h1;simp at h1;omega
theorem rq_inj {j k:Nat} (hj:q j=true) (hk:q k=true) (h:rkQ q j=rkQ q k):j=k:=by
 rcases Nat.lt_trichotomy j k with h1 | h1 | h1
 ·have:=rq_lt hj h1;omega
 ·exact h1
 ·have:=rq_lt hk h1;omega
theorem rq_of_lt {j k:Nat} (h:rkQ q j<rkQ q k):j<k:=by
 rcases Nat.lt_or_ge j k with h1 | h1
 ·exact h1
 ·have:=rq_mono (q:=q) h1;omega
theorem kq_get:∀(m:Nat) {j:Nat},j<m→q j=true→(keptQ q m)[rkQ q j]? =some j
 | 0,j,h,_=>by omega
 | m+1,j,h,hu=>by
  rw[kq_succ];rcases Nat.lt_or_ge j m with h1 | h1
  ·rw[List.getElem?_append_left (rq_lt hu h1)];exact kq_get m h1 hu
  ·have:j=m:=(by omega);subst this;rw[if_pos hu,List.getElem?_append_right (show(keptQ q j).length≤rkQ q j from Nat.le_refl _)];simp[rkQ]
theorem kq_inv:∀(m:Nat) {x:Nat},x<rkQ q m→∃j,j<m∧q j=true∧rkQ q j=x
 | 0,x,h=>by simp[rq_zero]at h
 | m+1,x,h=>by
  by_cases h1:x<rkQ q m
  ·obtain⟨j,a,b,c⟩:=kq_inv m h1;exact⟨j,by omega,b,c⟩
  ·rw[rq_succ]at h;by_cases hu:q m=true
   ·rw[if_pos hu]at h;exact⟨m,by omega,hu,by omega⟩
   ·rw[if_neg hu]at h;omega
theorem rq_all {m:Nat} (h:∀j,j<m→q j=true):rkQ q m=m:=by
 induction m with
 | zero=>rfl
 | succ m ih=>rw[rq_succ,ih (fun j hj=>h j (by omega)),if_pos (h m (by omega))]
end
section
variable {t:List Pl} {q:Nat→Bool}
theorem keep_len {m:Nat} :(keepT t q m).length=rkQ q m:=by simp[keepT,rkQ]
theorem keep_get {m j:Nat} (h:j<m) (hu:q j=true):nth (keepT t q m) (rkQ q j)=keepP t q j:=by
 have hl:rkQ q j<(keepT t q m).length:=(by rw[keep_len];exact rq_lt hu h);rw[nth_eq hl];have h1:=kq_get m h hu;have h2:(keepT t q m)[rkQ q j]? =some (keepP t q j):=by
  unfold keepT;rw[List.getElem?_map,h1];rfl
 rw[List.getElem?_eq_getElem hl]at h2;injection h2
theorem renq_nn {n:Int} (h:0≤n):renQ q n=rkQ q n.toNat:=by
 unfold renQ;rw[if_neg (by omega)]
end
set_option linter.unusedSectionVars false
section
variable {t:List Pl} {q:Nat→Bool} (g:Good t) (c:Clo t q)
include g c
theorem keep_par {j:Nat} (hj:j<t.length) (hu:q j=true) (hj1:1≤j):parN (keepT t q t.length) (rkQ q j)=rkQ q (parN t j).toNat:=by
 show(nth (keepT t q t.length) (rkQ q j)).par=_;rw[keep_get hj hu];exact renq_nn (g.par j hj1 hj).1
theorem keep_root:nth (keepT t q t.length) 0=rootP:=by
 have:=keep_get (t:=t) (q:=q) g.pos c.zero;rw[rq_zero]at this;rw[this];unfold keepP;rw[g.root,root_par g.root];rfl
theorem keep_inv {x:Nat} (hx:1≤x) (hl:x<(keepT t q t.length).length):∃j,1≤j∧j<t.length∧q j=true∧rkQ q j=x:=by
 rw[keep_len]at hl;obtain⟨j,hj,hu,rfl⟩:=kq_inv _ hl;refine⟨j,?_,hj,hu,rfl⟩;rcases Nat.eq_zero_or_pos j with rfl | h
 ·rw[rq_zero]at hx;omega
 ·exact h
theorem keep_pars:∀x,1≤x→x<(keepT t q t.length).length→0≤parN (keepT t q t.length) x∧parN (keepT t q t.length) x<x:=by
 intro x hx hl;obtain⟨j,hj1,hj,hu,rfl⟩:=keep_inv g c hx hl;rw[keep_par g c hj hu hj1];have hp:=g.par j hj1 hj;have:=rq_lt (c.par j hj1 hj hu) (k:=j) (by omega);omega
theorem keep_dn:Dn (keepT t q t.length):=dn_of (root_par (keep_root g c)) (keep_pars g c)
theorem rq_pos {j:Nat} (hj:1≤j):1≤rkQ q j:=by
 have:=rq_lt c.zero (k:=j) (by omega);omega
theorem rq_in {j:Nat} (hj:j<t.length) (hu:q j=true):rkQ q j<(keepT t q t.length).length:=by rw[keep_len];exact rq_lt hu hj
theorem up_keep:∀(m:Nat) {j:Nat},j<m→j<t.length→q j=true→upN (keepT t q t.length) (rkQ q j)=(upN t j).map (rkQ q)
 | 0,j,h,_,_=>by omega
 | m+1,j,h,hj,hu=>by
  have hl:=rq_in g c hj hu;rcases Nat.eq_zero_or_pos j with rfl | hj1
  ·rw[up_zero (root_par g.root),rq_zero,up_zero (root_par (keep_root g c))];rfl
  ·have hp:=g.par j hj1 hj;rw[up_step (keep_dn g c) hl,up_step g.dn hj,keep_par g c hj hu hj1,if_neg (by omega),if_neg (by omega),List.map_cons,Int.toNat_natCast];rw[up_keep m (by omega) (by omega) (c.par j hj1 hj hu)]
theorem good_keep:Good (keepT t q t.length):=by
 refine⟨?_,?_,keep_root g c,keep_pars g c,?_,?_,?_⟩
 ·rw[keep_len];have:=rq_le (q:=q) (a:=t.length);have:=g.le;omega
 ·have:=rq_in g c g.pos c.zero;omega
 ·intro x hx hl;obtain⟨j,hj1,hj,hu,rfl⟩:=keep_inv g c hx hl;rw[keep_get hj hu];exact g.right j hj1 hj
 ·intro x y hx hxy hy e1 e2;obtain⟨j,hj1,hj,hu,rfl⟩:=keep_inv g c hx (by omega);obtain⟨k,hk1,hk,hv,rfl⟩:=keep_inv g c (by omega) hy;rw[keep_par g c hj hu hj1,keep_par g c hk hv hk1]at e1;rw[keep_get hj hu,keep_get hk hv]at e2;have hp:=rq_inj (c.par j hj1 hj hu) (c.par k hk1 hk hv) (by omega);have p1:=g.par j hj1 hj;have p2:=g.par k hk1 hk;exact g.uniq j k hj1 (rq_of_lt hxy) hk (by omega) e2
 ·intro x hx hl;obtain⟨j,hj1,hj,hu,rfl⟩:=keep_inv g c hx hl;rw[up_keep g c _ (Nat.lt_succ_self j) hj hu,List.length_map];exact g.high j hj1 hj
theorem path_keep:∀(m:Nat) {j:Nat},j<m→j<t.length→q j=true→pathL (keepT t q t.length) (rkQ q j)=pathL t j
 | 0,j,h,_,_=>by omega
 | m+1,j,h,hj,hu=>by
  have gc:=good_keep g c;rcases Nat.eq_zero_or_pos j with rfl | hj1
  ·rw[rq_zero,path_zero g,path_zero gc]
  ·have hp:=g.par j hj1 hj;have hl:=rq_in g c hj hu;rw[path_step gc (rq_pos g c hj1) hl,path_step g hj1 hj,keep_par g c hj hu hj1,Int.toNat_natCast,path_keep m (by omega) (by omega) (c.par j hj1 hj hu),keep_get hj hu];rfl
theorem find_keep {j:Nat} (hj:j<t.length):findGo (keepT t q t.length) 0 (pathL t j)=if q j=true then some (rkQ q j:Int)else none:=by
 have gc:=good_keep g c;by_cases hu:q j=true
 ·rw[if_pos hu,←path_keep g c _ (Nat.lt_succ_self j) hj hu,find_path gc _ (Nat.lt_succ_self _) (rq_in g c hj hu)]
 ·rw[if_neg hu];cases hf:findGo (keepT t q t.length) 0 (pathL t j)with
  | none=>rfl
  | some k=>
   obtain⟨x,rfl,hx,hp⟩:=path_find0 gc hf;rw[keep_len]at hx;obtain⟨y,hy,hv,rfl⟩:=kq_inv _ hx;rw[path_keep g c _ (Nat.lt_succ_self y) hy hv]at hp;have:=path_inj g hy hj hp;subst this;exact absurd hv hu
theorem ch_keep {p:Nat} (hp:p<t.length) (hu:q p=true) {b:Bs} :chF (keepT t q t.length) (rkQ q p) b=(chF t p b).bind fun k=>if q k=true then some (rkQ q k)else none:=by
 have gc:=good_keep g c;cases hc:chF t p b with
 | some k=>
  obtain⟨h1,h2,h3⟩:=chF_some hc;have hk1:1≤k:=by
   rcases Nat.eq_zero_or_pos k with rfl | h
   ·rw[root_par g.root]at h2;omega
   ·exact h
  show _=if q k=true then some (rkQ q k)else none;by_cases hk:q k=true
  ·rw[if_pos hk];refine gc.child (by omega) (rq_in g c h1 hk) ?_ ?_
   ·rw[keep_par g c h1 hk hk1,h2];rfl
   ·rw[keep_get h1 hk];exact h3
  ·rw[if_neg hk,chF_none];intro x hx e1 e2;rcases Nat.eq_zero_or_pos x with rfl | hx1
   ·rw[root_par (keep_root g c)]at e1;omega
   ·obtain⟨j,hj1,hj,hj2,rfl⟩:=keep_inv g c hx1 hx;rw[keep_par g c hj hj2 hj1]at e1;rw[keep_get hj hj2]at e2;have p1:=g.par j hj1 hj;have hpp:=rq_inj (c.par j hj1 hj hj2) hu (by omega);have hjk:j=k:=by
     rcases Nat.lt_trichotomy j k with h | h | h
     ·exact(g.uniq j k hj1 h h1 (by omega) (e2.trans h3.symm)).elim
     ·exact h
     ·exact(g.uniq k j hk1 h hj (by omega) (h3.trans e2.symm)).elim
    subst hjk;exact hk hj2
 | none=>
  rw[chF_none]at hc;show _=none;rw[chF_none];intro x hx e1 e2;rcases Nat.eq_zero_or_pos x with rfl | hx1
  ·rw[root_par (keep_root g c)]at e1;omega
  ·obtain⟨j,hj1,hj,hj2,rfl⟩:=keep_inv g c hx1 hx;rw[keep_par g c hj hj2 hj1]at e1;rw[keep_get hj hj2]at e2;have p1:=g.par j hj1 hj;have hpp:=rq_inj (c.par j hj1 hj hj2) hu (by omega);exact hc j hj (by omega) e2
theorem res_keep {b:Bs} :∀(m:Nat) {j:Nat},j<m→j<t.length→q j=true→(∀k:Nat,resolveN t j b=k→q k=true)→resolveN (keepT t q t.length) (rkQ q j) b=renQ q (resolveN t j b)
 | m+1,j,hm,hj,hu,hk=>by
  have gc:=good_keep g c;have hl:=rq_in g c hj hu;have hch:=ch_keep g c hj hu (b:=b);cases hc:chF t j b with
  | some k=>
   have hr:=res_at g hj hc;have hqk:=hk k hr;rw[hc]at hch;simp only[Option.bind_some,if_pos hqk]at hch;rw[res_at gc hl hch,hr,renq_nn (by omega)];rfl
  | none=>
   rw[hc]at hch;simp only[Option.bind_none]at hch;rcases Nat.eq_zero_or_pos j with rfl | hj1
   ·rw[res_root gc hl hch (by rw[rq_zero,root_par (keep_root g c)];omega),res_root g hj hc (by rw[root_par g.root];omega)];rfl
   ·have hp:=g.par j hj1 hj;have hkp:=keep_par g c hj hu hj1;rw[res_up gc hl hch (by omega),hkp,res_up g hj hc hp.1];have hpe:(((parN t j).toNat:Nat):Int)=parN t j:=(by omega);have:=res_keep (b:=b) m (j:=(parN t j).toNat) (by omega) (by omega) (c.par j hj1 hj hu) (fun k hk2=>hk k (by rw[res_up g hj hc hp.1,←hpe];exact hk2));rw[this,hpe]
theorem to_keep {j:Nat} (hj:j<t.length) (hu:q j=true) {d:Dep} (hk:∀k:Nat,toN t j d=k→q k=true):toN (keepT t q t.length) (rkQ q j) d=renQ q (toN t j d):=by
 have gc:=good_keep g c;have hl:=rq_in g c hj hu;have hA:¬(((rkQ q j:Nat):Int)<0∨((keepT t q t.length).length:Int)≤(rkQ q j:Nat)):=(by omega);have hB:¬((j:Int)<0∨(t.length:Int)≤j):=(by omega);unfold toN at*;rw[if_neg hB]at hk;rw[if_neg hA,if_neg hB];by_cases hc:d.kind=4∧(0:Int)<j
 ·have hj1:1≤j:=(by omega);have hp:=g.par j hj1 hj;have hc':d.kind=4∧(0:Int)<(rkQ q j:Nat):=⟨hc.1,by have:=rq_pos g c hj1;omega⟩;rw[if_pos hc]at hk⊢;rw[if_pos hc',Int.toNat_natCast,Int.toNat_natCast];rw[Int.toNat_natCast]at hk;have e1:(nth (keepT t q t.length) (rkQ q j)).par=rkQ q (parN t j).toNat:=keep_par g c hj hu hj1;have e2:(nth t j).par=((parN t j).toNat:Nat):=(by show parN t j=_;omega);rw[e1,e2];rw[e2]at hk;exact res_keep g c _ (Nat.lt_succ_self _) (by omega) (c.par j hj1 hj hu) hk
 ·rw[if_neg hc]at hk⊢;have hc':¬(d.kind=4∧(0:Int)<(rkQ q j:Nat)):=by
   rintro⟨a,b⟩;refine hc ⟨a,?_⟩;rcases Nat.eq_zero_or_pos j with rfl | h
   ·rw[rq_zero]at b;omega
   ·omega
  rw[if_neg hc'];exact res_keep g c _ (Nat.lt_succ_self _) hj hu hk
end
theorem keep_all {t:List Pl} {q:Nat→Bool} (g:Good t) (h:∀j,j<t.length→q j=true):keepT t q t.length=t:=by
 have hr:∀j,j≤t.length→rkQ q j=j:=fun j hj=>rq_all fun k hk=>h k (by omega);refine List.ext_getElem (by rw[keep_len,hr _ (Nat.le_refl _)]) fun j ha hb=> ?_;rw[←nth_eq ha,←nth_eq hb];have:=keep_get (t:=t) hb (h j hb);rw[hr j (by omega)]at this;rw[this];unfold keepP;have hd:=g.dn j hb;have:renQ q (parN t j)=(nth t j).par:=by
  show _=parN t j;unfold renQ;split
  ·rfl
  ·rw[hr _ (by omega)];omega
 rw[this]
theorem keep_keep {t:List Pl} {q r:Nat→Bool} (g:Good t) (c:Clo t q) (hr:∀j,j<t.length→q j=true→(r (rkQ q j)=true→True)) (hz:r 0=true) (hp:∀j,1≤j→j<t.length→q j=true→r (rkQ q j)=true→r (rkQ q (parN t j).toNat)=true):
  keepT (keepT t q t.length) r (keepT t q t.length).length=keepT t (fun j=>q j&&r (rkQ q j)) t.length:=by
 have hrank:∀m,m≤t.length→rkQ r (rkQ q m)=rkQ (fun j=>q j&&r (rkQ q j)) m:=by
  intro m;induction m with
  | zero=>intro _;rfl
  | succ m ih=>
   intro hm;have e:=rq_succ (q:=fun j=>q j&&r (rkQ q j)) (k:=m);rw[e,←ih (by omega),rq_succ (q:=q)];by_cases hq:q m=true
   ·rw[if_pos hq,rq_succ];simp[hq]
   ·rw[if_neg hq];simp[hq]
 have hlen:(keepT t q t.length).length=rkQ q t.length:=keep_len;refine List.ext_getElem (by rw[keep_len,keep_len,keep_len,hrank _ (Nat.le_refl _)]) fun x ha hb=> ?_;rw[keep_len]at hb;obtain⟨j,hj,hu,rfl⟩:=kq_inv _ hb;have hqj:q j=true:=(by simp at hu;exact hu.1);have hrj:r (rkQ q j)=true:=(by simp at hu;exact hu.2);rw[←nth_eq ha,←nth_eq (by rw[keep_len];exact hb),keep_get hj hu,←hrank j (by omega),keep_get (rq_in g c hj hqj) hrj];unfold keepP;rw[keep_get hj hqj];have hd:=g.dn j hj;have h0:∀n:Int,n<j→renQ r (renQ q n)=renQ (fun j=>q j&&r (rkQ q j)) n:=by
  intro n hn;by_cases h:n<0
  ·simp[renQ,h]
  ·have h1:renQ q n=rkQ q n.toNat:=renq_nn (by omega);rw[h1,renq_nn (q:=r) (n:=(rkQ q n.toNat:Nat)) (by omega),renq_nn (q:=fun j=>q j&&r (rkQ q j)) (n:=n) (by omega),Int.toNat_natCast,hrank _ (by omega)]
 have h1:parN (keepT t q t.length) (rkQ q j)=renQ q (parN t j):=by
  show(nth (keepT t q t.length) (rkQ q j)).par=_;rw[keep_get hj hqj];rfl
 rw[h1,h0 _ hd];rfl
set_option maxRecDepth 100000
set_option maxHeartbeats 400000
def edgesV (root:Man) (L:List Man) (t:List Pl) (n:Nat):List Dep:=match manVal root L t n with
 | none=>[]
 | some m=>ofF m.deps root.rules (decide ((n:Int)=0))
inductive Rch (root:Man) (L:List Man) (t:List Pl):Nat→Prop
 | zero:Rch root L t 0
 | par {n:Nat} :Rch root L t n→0≤parN t n→Rch root L t (parN t n).toNat
 | edge {n k:Nat} {d:Dep} :Rch root L t n→d∈edgesV root L t n→toN t n d=k→Rch root L t k
open Classical in
noncomputable def rchB (root:Man) (L:List Man) (t:List Pl) (n:Nat):Bool:=decide (Rch root L t n)
theorem rchB_iff {root:Man} {L:List Man} {t:List Pl} {n:Nat} :rchB root L t n=true↔Rch root L t n:=by simp[rchB]
theorem rch_clo {root:Man} {L:List Man} {t:List Pl} (g:Good t):Clo t (rchB root L t):=
 ⟨rchB_iff.2 .zero,fun j h1 hj h=>rchB_iff.2 (.par (rchB_iff.1 h) (g.par j h1 hj).1)⟩
theorem rch_lt {root:Man} {L:List Man} {t:List Pl} (g:Good t) {n:Nat} (h:Rch root L t n):n<t.length:=by
 induction h with
 | zero=>exact g.pos
 | par h h0 ih=>
  have:=g.dn _ ih;omega
 | edge h hd hk ih=>
  rename_i n k d;have:=toN_lt t n d;omega
noncomputable def reachL (root:Man) (L:List Man) (t:List Pl):List Int:=if codeV root L t=0 then(keptQ (rchB root L t) t.length).map fun(n:Nat)=>(n:Int)else[]
noncomputable def pruneT (root:Man) (L:List Man) (t:List Pl):List Pl:=if codeV root L t=0 then keepT t (rchB root L t) t.length else[]
section
variable {root:Man} {L:List Man} {t:List Pl} {q:Nat→Bool} (g:Good t) (c:Clo t q)
include g c
theorem man_keep {j:Nat} (hj:j<t.length) (hu:q j=true):manVal root L (keepT t q t.length) (rkQ q j:Nat)=manVal root L t j:=by
 have gc:=good_keep g c;unfold manVal;rw[if_pos (holds_iff.2 ⟨gc,by omega,by have:=rq_in g c hj hu;omega⟩),if_pos (holds_iff.2 ⟨g,by omega,by omega⟩)];rw[Int.toNat_natCast,Int.toNat_natCast,keep_get hj hu];rcases Nat.eq_zero_or_pos j with rfl | h
 ·rw[rq_zero,if_pos (show((0:Nat):Int)=0 from rfl),if_pos (show((0:Nat):Int)=0 from rfl)]
 ·have:=rq_pos g c h;rw[if_neg (by omega),if_neg (by omega)];rfl
theorem edges_keep {j:Nat} (hj:j<t.length) (hu:q j=true):edgesV root L (keepT t q t.length) (rkQ q j)=edgesV root L t j:=by
 unfold edgesV;rw[man_keep g c hj hu];have:decide (((rkQ q j:Nat):Int)=0)=decide ((j:Int)=0):=by
  rcases Nat.eq_zero_or_pos j with rfl | h
  ·rfl
  ·have:=rq_pos g c h;simp;omega
 rw[this]
theorem holds_keep {j:Nat} (hj:j<t.length) (hu:q j=true) {d:Dep} (hk:∀k:Nat,toN t j d=k→q k=true):holdsV (keepT t q t.length) (rkQ q j:Nat) d=holdsV t j d:=by
 have gc:=good_keep g c;have ht:=to_keep g c hj hu hk;unfold holdsV;rw[if_pos (holds_iff.2 ⟨gc,by omega,by have:=rq_in g c hj hu;omega⟩),if_pos (holds_iff.2 ⟨g,by omega,by omega⟩),ht];by_cases h:toN t j d<0
 ·rw[if_pos h,if_pos (by unfold renQ;rw[if_pos h];exact h)]
 ·have hlt:=toN_lt t j d;rw[if_neg h,renq_nn (by omega),if_neg (by omega),Int.toNat_natCast,keep_get (by omega) (hk _ (by omega))];rfl
end
section
variable {root:Man} {L:List Man} {t:List Pl} (g:Good t)
include g
theorem rch_to {j:Nat} (h:rchB root L t j=true) {d:Dep} (hd:d∈edgesV root L t j):∀k:Nat,toN t j d=k→rchB root L t k=true:=
 fun k hk=>rchB_iff.2 (.edge (rchB_iff.1 h) hd hk)
theorem rch_keep {j:Nat} (h:Rch root L t j):Rch root L (keepT t (rchB root L t) t.length) (rkQ (rchB root L t) j):=by
 have c:=rch_clo (root:=root) (L:=L) g;induction h with
 | zero=>exact .zero
 | par h h0 ih=>
  rename_i n;have hn:=rch_lt g h;rcases Nat.eq_zero_or_pos n with rfl | h1
  ·rw[root_par g.root]at h0;omega
  ·have e:=keep_par g c hn (rchB_iff.2 h) h1;have:=Rch.par ih (by rw[e];omega);rw[e,Int.toNat_natCast]at this;exact this
 | edge h hd hk ih=>
  rename_i n k d;have hn:=rch_lt g h;have hb:=rchB_iff.2 h;refine .edge ih (d:=d) (by rw[edges_keep g c hn hb];exact hd) ?_;rw[to_keep g c hn hb (rch_to g hb hd),hk,renq_nn (by omega),Int.toNat_natCast]
theorem rch_all {x:Nat} (hx:x<(keepT t (rchB root L t) t.length).length):rchB root L (keepT t (rchB root L t) t.length) x=true:=by
 rw[keep_len]at hx;obtain⟨j,hj,hu,rfl⟩:=kq_inv _ hx;exact rchB_iff.2 (rch_keep g (rchB_iff.1 hu))
theorem prune_twice:keepT (keepT t (rchB root L t) t.length) (rchB root L (keepT t (rchB root L t) t.length)) (keepT t (rchB root L t) t.length).length=keepT t (rchB root L t) t.length:=
 keep_all (good_keep g (rch_clo g)) fun _ h=>rch_all g h
end
theorem prune_code {root:Man} {L:List Man} {t:List Pl} {q:Nat→Bool} (h:codeV root L t=0) (c:Clo t q):codeV root L (keepT t q t.length)=0:=by
 obtain⟨h1,h2,h3⟩:=codeV_zero.1 h;exact codeV_zero.2 ⟨h1,h2,check_iff.2 (good_keep (check_iff.1 h3) c)⟩
theorem fine_iff {root:Man} {L:List Man} {t:List Pl} {n:Nat} :fineV root L t n=true↔(manVal root L t n).isSome=true∧∀d∈edgesV root L t n,holdsV t n d=true:=by
 unfold fineV edgesV;cases manVal root L t n with
 | none=>simp
 | some m=>simp[List.all_eq_true]
theorem valid_iff {root:Man} {L:List Man} {t:List Pl} :validN root L t=true↔codeV root L t=0∧∀n,n<t.length→fineV root L t n=true:=by
 simp only[validN,Bool.and_eq_true,decide_eq_true_eq];constructor
 ·rintro⟨h1,h2⟩;refine⟨h1,fun n hn=> ?_⟩;have g:=check_iff.1 (codeV_zero.1 h1).2.2;have:=wrong_mem (root:=root) (L:=L) g hn;rw[h2]at this;simpa using this.symm
 ·rintro⟨h1,h2⟩;refine⟨h1,?_⟩;have g:=check_iff.1 (codeV_zero.1 h1).2.2;unfold wrongL;rw[List.filter_eq_nil_iff];intro x hx;have:∃n:Nat,n<t.length∧x=n:=by
   unfold belowL at hx;split at hx
   ·unfold belowK at hx;obtain⟨n,hn,rfl⟩:=List.mem_map.1 hx;exact⟨n,List.mem_range.1 (List.mem_filter.1 hn).1,rfl⟩
   ·cases hx
  obtain⟨n,hn,rfl⟩:=this;simp[h2 n hn]
theorem prune_valid {root:Man} {L:List Man} {t:List Pl} (h:validN root L t=true):validN root L (keepT t (rchB root L t) t.length)=true:=by
 obtain⟨h1,h2⟩:=valid_iff.1 h;have g:=check_iff.1 (codeV_zero.1 h1).2.2;have c:=rch_clo (root:=root) (L:=L) g;refine valid_iff.2 ⟨prune_code h1 c,fun x hx=> ?_⟩;rw[keep_len]at hx;obtain⟨j,hj,hu,rfl⟩:=kq_inv _ hx;obtain⟨a,b⟩:=fine_iff.1 (h2 j hj);refine fine_iff.2 ⟨by rw[man_keep g c hj hu];exact a,fun d hd=> ?_⟩;rw[edges_keep g c hj hu]at hd;rw[holds_keep g c hj hu (rch_to g hu hd)];exact b d hd
theorem bare_rch {root:Man} {L:List Man} {t:List Pl} (g:Good t) {n:Nat} (h:Rch {root with deps:=[]} L t n):n=0:=by
 induction h with
 | zero=>rfl
 | par h h0 ih=>
  subst ih;rw[root_par g.root]at h0;omega
 | edge h hd hk ih=>
  subst ih;unfold edgesV at hd;have hm:manVal {root with deps:=[]} L t (0:Nat)=some {root with deps:=[]} :=by
   unfold manVal;rw[if_pos (holds_iff.2 ⟨g,by omega,by have:=g.pos;omega⟩),if_pos (show((0:Nat):Int)=0 from rfl)]
  rw[hm]at hd;obtain⟨m,hm,_⟩:=List.mem_map.1 hd;have:namesOf (byM true ([]:List Dep))=[]:=rfl;have hp:=(sortN_perm (namesOf (byM true ([]:List Dep)))).mem_iff.1 (by simpa using hm);rw[this]at hp;cases hp
theorem bare_check {root:Man} (h:manCheck root true=0):manCheck {root with deps:=[]} true=0:=by
 unfold manCheck at*;split at h
 ·cases h
 ·rename_i h1;split at h
  ·rename_i h2;rw[if_neg (by simp;omega),if_pos];simp only[manRight,Bool.and_eq_true]at h2⊢;exact⟨h2.1,rfl,h2.2.2⟩
  ·cases h
theorem bare_prune {root:Man} {L:List Man} {t:List Pl} (g:Good t):keepT t (rchB {root with deps:=[]} L t) t.length=[rootP]:=by
 have c:=rch_clo (root:= {root with deps:=[]}) (L:=L) g;have h0:∀j,rchB {root with deps:=[]} L t j=decide (j=0):=by
  intro j;rw[Bool.eq_iff_iff,rchB_iff,decide_eq_true_eq];exact⟨bare_rch g,fun h=>by subst h;exact .zero⟩
 have hl:(keepT t (rchB {root with deps:=[]} L t) t.length).length=1:=by
  rw[keep_len];have:∀m,1≤m→rkQ (rchB {root with deps:=[]} L t) m=1:=by
   intro m;induction m with
   | zero=>intro h;omega
   | succ m ih=>
    intro _;rw[rq_succ,h0];rcases Nat.eq_zero_or_pos m with rfl | h
    ·rfl
    ·rw[ih h,if_neg (by simp;omega)]
  exact this _ g.pos
 have hr:=keep_root g c;generalize keepT t (rchB {root with deps:=[]} L t) t.length=u at*;obtain⟨p,rfl⟩:=List.length_eq_one_iff.1 hl;rw[←hr];rfl
set_option maxRecDepth 100000
set_option maxHeartbeats 400000
def natZ (z:Int):Option Nat:=if 0≤z then some z.toNat else none
def leadsN (root:Man) (L:List Man) (t:List Pl) (n:Nat):List Nat:=(if 0<n then[(parN t n).toNat]else[])++((edgesV root L t n).map (toN t n)).filterMap natZ
theorem lead_rch {root:Man} {L:List Man} {t:List Pl} (g:Good t) {n k:Nat} (h:Rch root L t n) (hk:k∈leadsN root L t n):Rch root L t k:=by
 unfold leadsN at hk;rcases List.mem_append.1 hk with hk | hk
 ·split at hk
  ·rename_i h0;have:=(g.par n h0 (rch_lt g h)).1;simp at hk;subst hk;exact .par h this
  ·simp at hk
 ·obtain⟨z,hz,hzk⟩:=List.mem_filterMap.1 hk;obtain⟨d,hd,rfl⟩:=List.mem_map.1 hz;unfold natZ at hzk;split at hzk
  ·simp at hzk;exact .edge h hd (by omega)
  ·cases hzk
theorem rch_on {root:Man} {L:List Man} {t:List Pl} (g:Good t) {q:Nat→Prop} (h0:q 0) (hc:∀n,q n→∀k∈leadsN root L t n,q k) {n:Nat} (h:Rch root L t n):q n:=by
 induction h with
 | zero=>exact h0
 | par h h1 ih=>
  rename_i m;refine hc m ih _ ?_;unfold leadsN;refine List.mem_append.2 (.inl ?_);have hm:0<m:=by
   rcases Nat.eq_zero_or_pos m with rfl | h
   ·have:=(good_par (check_iff.2 g)).1;unfold parN at this h1;omega
   ·exact h
  rw[if_pos hm];simp
 | edge h hd hk ih=>
  rename_i m k d;refine hc m ih _ ?_;unfold leadsN;refine List.mem_append.2 (.inr (List.mem_filterMap.2 ⟨_,List.mem_map.2 ⟨d,hd,rfl⟩,?_⟩));rw[hk];simp[natZ]
def offN (on:List Bool):Nat:=on.countP (fun b=> !b)
theorem off_set:∀ {on:List Bool} {k:Nat},k<on.length→nth on k=false→offN (on.set k true)+1=offN on
 | [],k,h,_=>by simp at h
 | b::l,0,_,h=>by
  have:b=false:=h;subst this;simp[offN]
 | b::l,k+1,h,h1=>by
  have ih:=off_set (on:=l) (k:=k) (by simpa using h) h1;unfold offN at*;rw[List.set_cons_succ,List.countP_cons,List.countP_cons];omega
theorem nth_setB {on:List Bool} {k j:Nat} (hk:k<on.length):nth (on.set k true) j=if j=k then true else nth on j:=by
 unfold nth;rw[List.getD_eq_getElem?_getD,List.getD_eq_getElem?_getD,List.getElem?_set];by_cases h:k=j
 ·subst h;simp[hk]
 ·have h':¬j=k:=fun e=>h e.symm;simp[h,h']
structure Dfs (root:Man) (L:List Man) (t:List Pl) (on:List Bool) (w:List Nat):Prop where
 len:on.length=t.length
 zero:nth on 0=true
 sub:∀k,nth on k=true→Rch root L t k
 win:∀k∈w,nth on k=true
 don:∀k,nth on k=true→k∉w→∀j∈leadsN root L t k,nth on j=true
structure Rnd (root:Man) (L:List Man) (t:List Pl) (n M:Nat) (acc:List Nat) (on:List Bool) (w:List Nat):Prop where
 len:on.length=t.length
 zero:nth on 0=true
 sub:∀k,nth on k=true→Rch root L t k
 win:∀k∈w,nth on k=true
 ac:∀k∈acc,nth on k=true
 don:∀k,nth on k=true→k∉w→k≠n→∀j∈leadsN root L t k,nth on j=true
 msr:w.length+2*offN on≤M
theorem dfs_start {root:Man} {L:List Man} {t:List Pl} (g:Good t):Dfs root L t ((List.replicate t.length false).set 0 true) [0]:=by
 have hp:=g.pos;have h0:∀k,nth ((List.replicate t.length false).set 0 true) k=true→k=0:=fun k h=>by
  rw[nth_setB (by simpa using hp)]at h;split at h
  ·assumption
  ·exfalso;unfold nth at h;rw[List.getD_eq_getElem?_getD,List.getElem?_replicate]at h;split at h<;>simp at h
 refine⟨by simp,by rw[nth_setB (by simpa using hp),if_pos rfl],fun k h=> ?_,fun k h=> ?_,fun k h h1=> ?_⟩
 ·rw[h0 k h];exact .zero
 ·simp at h;subst h;rw[nth_setB (by simpa using hp),if_pos rfl]
 ·rw[h0 k h]at h1;simp at h1
theorem rnd_start {root:Man} {L:List Man} {t:List Pl} {n:Nat} {on:List Bool} {w:List Nat} (h:Dfs root L t on (w++[n])):Rnd root L t n (w.length+2*offN on) [] on w:=
 ⟨h.len,h.zero,h.sub,fun k hk=>h.win k (by simp[hk]),fun k hk=>by simp at hk,fun k h1 h2 h3=>h.don k h1 (by simp[h2,h3]),Nat.le_refl _⟩
theorem rnd_skip {root:Man} {L:List Man} {t:List Pl} {n M k:Nat} {acc:List Nat} {on:List Bool} {w:List Nat} (h:Rnd root L t n M acc on w) (hk:nth on k=true):Rnd root L t n M (acc++[k]) on w:=
 ⟨h.len,h.zero,h.sub,h.win,fun j hj=>by
  rcases List.mem_append.1 hj with hj | hj
  ·exact h.ac j hj
  ·simp at hj;subst hj;exact hk,h.don,h.msr⟩
theorem rnd_put {root:Man} {L:List Man} {t:List Pl} {n M k:Nat} {acc:List Nat} {on:List Bool} {w:List Nat} (h:Rnd root L t n M acc on w) (hk:nth on k=false) (hl:k<t.length) (hr:Rch root L t k):Rnd root L t n M (acc++[k]) (on.set k true) (w++[k]):=by
 have hl2:k<on.length:=(by rw[h.len];exact hl);have up:∀j,nth on j=true→nth (on.set k true) j=true:=fun j hj=>(by rw[nth_setB hl2,hj];simp);have self:nth (on.set k true) k=true:=(by rw[nth_setB hl2,if_pos rfl]);refine⟨by rw[List.length_set];exact h.len,up _ h.zero,fun j hj=> ?_,fun j hj=> ?_,fun j hj=> ?_,fun j h1 h2 h3 i hi=> ?_,?_⟩
 ·rw[nth_setB hl2]at hj;split at hj
  ·rename_i e;subst e;exact hr
  ·exact h.sub j hj
 ·rcases List.mem_append.1 hj with hj | hj
  ·exact up j (h.win j hj)
  ·simp at hj;subst hj;exact self
 ·rcases List.mem_append.1 hj with hj | hj
  ·exact up j (h.ac j hj)
  ·simp at hj;subst hj;exact self
 ·have hne:j≠k:=fun e=>h2 (by simp[e]);rw[nth_setB hl2,if_neg hne]at h1;exact up i (h.don j h1 (fun hw=>h2 (by simp[hw])) h3 i hi)
 ·have:=off_set hl2 hk;have:=h.msr;rw[List.length_append,List.length_singleton];omega
theorem rnd_end {root:Man} {L:List Man} {t:List Pl} {n M:Nat} {on:List Bool} {w:List Nat} (h:Rnd root L t n M (leadsN root L t n) on w):Dfs root L t on w:=by
 refine⟨h.len,h.zero,h.sub,h.win,fun k h1 h2 j hj=> ?_⟩;by_cases e:k=n
 ·subst e;exact h.ac j hj
 ·exact h.don k h1 h2 e j hj
theorem dfs_end {root:Man} {L:List Man} {t:List Pl} {on:List Bool} (g:Good t) (h:Dfs root L t on []):on=(List.range t.length).map (rchB root L t):=by
 have hk:∀k,nth on k=rchB root L t k:=fun k=>by
  rw[Bool.eq_iff_iff,rchB_iff];exact⟨h.sub k,fun hr=>rch_on (q:=fun k=>nth on k=true) g h.zero (fun n hn k hk=>h.don n hn (by simp) k hk) hr⟩
 refine List.ext_getElem (by simp[h.len]) fun k h1 h2=> ?_;rw[List.getElem_map,List.getElem_range,←hk,nth_eq h1]
set_option maxRecDepth 100000
set_option maxHeartbeats 4000000
theorem CallsOK.weakJs {P:Program} [Gl P] {f:FuncId} {xs:List AV} {r:AV} {J J':Js} (h:CallsOK P f xs r J) (hlen:J.length=J'.length)
  (hJ:∀(i:Nat) e cs,J[i]? =some (e,cs)→∃ds,J'[i]? =some (e,ds)∧WkTL cs ds):CallsOK P f xs r J':=by
 have e1:∀ {i:Nat} {o:AObj},ofJ J i=some o→∃e cs ds,J[i]? =some (e,cs)∧o=.row e cs∧J'[i]? =some (e,ds)∧ofJ J' i=some (.row e ds)∧WkTL cs ds:=by
  intro i o ho;unfold ofJ at ho⊢;cases hi:J[i]? with
  | none=>rw[hi]at ho;cases ho
  | some p=>
   rw[hi]at ho;simp only[Option.map_some,Option.some.injEq]at ho;obtain⟨ds,h1,h2⟩:=hJ i p.1 p.2 hi;exact⟨p.1,p.2,ds,rfl,ho.symm,h1,by rw[h1];rfl,h2⟩
 have e2:∀ {i:Nat} {o:AObj},ofJ J' i=some o→∃e cs ds,o=.row e ds∧ofJ J i=some (.row e cs)∧WkTL cs ds:=by
  intro i o ho;cases hi:J[i]? with
  | none=>
   have:J'[i]? =none:=(by rw[List.getElem?_eq_none_iff]at hi⊢;omega);unfold ofJ at ho;rw[this]at ho;cases ho
  | some p=>
   obtain⟨ds,h1,h2⟩:=hJ i p.1 p.2 hi;unfold ofJ at ho;rw[h1]at ho;simp only[Option.map_some,Option.some.injEq]at ho;exact⟨p.1,p.2,ds,ho.symm,by unfold ofJ;rw[hi];rfl,h2⟩
 refine⟨h.1,h.2.1,fun w us F hF hΓ hx=>(h.2.2 w us F hF hΓ hx).mono fun en w' hh=> ?_⟩;obtain⟨u,E',rfl,hv,hR,hEF,hb,hge⟩:=hh;refine⟨u,E',rfl,hv,⟨hR.inj,fun i b hi=> ?_,hR.lt,fun i o hi ha=> ?_,fun i=> ?_,fun b=> ?_,hR.nF,hR.Flt,hR.good⟩,hEF,hb,hge⟩
 ·obtain⟨o,h1,h2⟩:=hR.dom i b hi;obtain⟨e,cs,ds,_,rfl,_,h3,_⟩:=e1 h1;exact⟨_,h3,rfl⟩
 ·obtain⟨e,cs,ds,rfl,h1,hw⟩:=e2 hi;obtain⟨hl,hat⟩:=hw.at;rcases hR.obj i _ h1 rfl with⟨b,hb,us',q1,q2,q3⟩ | ⟨hN,e',he⟩
  ·refine .inl ⟨b,hb,us',q1,by omega,fun j c x hc hx=> ?_⟩;have hi:j<cs.length:=(by rw[hl];exact(List.getElem?_eq_some_iff.1 hc).1);exact hat j _ c (List.getElem?_eq_getElem hi) hc _ _ _ (q3 j _ x (List.getElem?_eq_getElem hi) hx)
  ·injection he with he1 he2;subst he2;cases ds with
   | nil=>exact .inr ⟨hN,e,rfl⟩
   | cons _ _=>simp at hl
 ·rw[hR.K i];exact⟨fun⟨o,h⟩=>by obtain⟨e,cs,ds,_,_,_,h3,_⟩:=e1 h;exact⟨_,h3⟩,fun⟨o,h⟩=>by obtain⟨e,cs,ds,_,h3,_⟩:=e2 h;exact⟨_,h3⟩⟩
 ·rw[hR.W b];exact⟨fun⟨i,o,h1,h2,h3⟩=>by obtain⟨e,cs,ds,_,rfl,_,h4,_⟩:=e1 h2;exact⟨i,_,h1,h4,rfl⟩,fun⟨i,o,h1,h2,h3⟩=>by obtain⟨e,cs,ds,rfl,h4,_⟩:=e2 h2;exact⟨i,_,h1,h4,rfl⟩⟩
def freeR:Rg:=[[]]
def v1:Ver:=⟨1,0,0,⟨#[]⟩⟩
def v2:Ver:=⟨2,0,0,⟨#[]⟩⟩
def twoR:Rg:=[[⟨5,v2⟩]]
theorem free_ok:CallsOK Tryz.prog 132 [] (.agg [.row 0 1]) [(83,flat Alt.cells freeR)]:=by
 refine CallsOK.weakJ (cs:=[.v (.slice none 0 0)]) ?_ (.cons .nil .nil);refine callsOK mixed Tryz.call132 Tryz.func132 rfl (by rw[Tryz.ntmps132];simp) ?_ rfl;rw[Tryz.ntmps132];with_reducible refine aR fun K' hK=> ?_
 simp;refine hK _ _ _ ?_;clear K' hK;with_reducible refine aR fun K' hK=> ?_
 simp;refine hK _ _ _ ?_;clear K' hK;with_reducible refine aw_retL ?_
 simp[blockK,loopK,Post,resA,res1,expT,expA,exp1,expM,expL,okT,okA,ok1,rowOf,Tryz.f132]
theorem two_ok:CallsOK Tryz.prog 133 [] (.agg [.row 0 1]) [(83,flat Alt.cells twoR)]:=by
 refine callsOK mixed Tryz.call133 Tryz.func133 rfl (by rw[Tryz.ntmps133];simp) ?_ rfl;rw[Tryz.ntmps133];with_reducible refine aR fun K' hK=> ?_
 simp;refine hK _ _ _ ?_;clear K' hK;with_reducible refine aR fun K' hK=> ?_
 simp;refine hK _ _ _ ?_;clear K' hK;with_reducible refine aw_retL ?_
 simp[blockK,loopK,Post,resA,res1,expT,expA,exp1,expM,expL,okT,okA,ok1,rowOf,Tryz.f133];rfl
set_option maxRecDepth 100000
set_option maxHeartbeats 4000000
def nA:Bs:=⟨#[97]⟩
def nB:Bs:=⟨#[98]⟩
def nC:Bs:=⟨#[99]⟩
def smallRoot:Man:=⟨⟨#[]⟩,⟨0,0,0,⟨#[]⟩⟩,[⟨1,nA,freeR⟩,⟨3,nB,twoR⟩],[]⟩
def smallX:List Man:=[⟨nA,v1,[⟨4,nC,freeR⟩],[]⟩,⟨nC,v1,[],[]⟩]
def gT1:List Pl:=[rootP,⟨0,nA,v1⟩]
def gT2:List Pl:=[rootP,⟨0,nA,v1⟩,⟨0,nC,v1⟩]
def gT3:List Pl:=[rootP,⟨0,nA,v1⟩,⟨0,nC,v1⟩,⟨0,nB,v1⟩]
theorem g_code1:codeV smallRoot smallX gT1=0:=by decide+kernel
theorem g_code2:codeV smallRoot smallX gT2=0:=by decide+kernel
theorem g_code3:codeV smallRoot smallX gT3=0:=by decide+kernel
theorem g_code0:codeV smallRoot smallX []=150:=by decide+kernel
theorem fine_at {root:Man} {L:List Man} {t:List Pl} {i:Int} {m:Man} {E:List Dep} (hm:manVal root L t i=some m) (ho:ofF m.deps root.rules (decide (i=0))=E):fineV root L t i=E.all (holdsV t i):=by
 unfold fineV;rw[hm];simp only[ho]
theorem of_small {ds:List Dep} {b:Bool} {S:List Bs} {E:List Dep} (h1:namesOf (byM b ds)=S) (h2:S.Pairwise leB') (h3:(S.map fun n=>edgeOf [] (findD (byM b ds) n))=E):ofF ds [] b=E:=by
 unfold ofF;rw[h1,sortN_self h2,h3]
instance (a b:Bs):Decidable (leB' a b):=by unfold leB';infer_instance
theorem of_r:ofF smallRoot.deps smallRoot.rules true=smallRoot.deps:=of_small (S:=[nA,nB]) (by decide+kernel) (by decide+kernel) (by decide+kernel)
theorem of_a:ofF [⟨4,nC,freeR⟩] smallRoot.rules false=[⟨4,nC,freeR⟩]:=of_small (S:=[nC]) (by decide+kernel) (by decide+kernel) (by decide+kernel)
theorem of_c:ofF [] smallRoot.rules false=[]:=of_small (S:=[]) (by decide+kernel) (by decide+kernel) (by decide+kernel)
theorem g_f0 {t:List Pl} (h:holdsF t 0=true):fineV smallRoot smallX t 0=smallRoot.deps.all (holdsV t 0):=fine_at (m:=smallRoot) (by rw[manVal,if_pos h,if_pos rfl]) of_r
theorem g_f1 {t:List Pl} {i:Int} (h:manVal smallRoot smallX t i=some ⟨nA,v1,[⟨4,nC,freeR⟩],[]⟩) (hi:decide (i=0)=false):fineV smallRoot smallX t i=[(⟨4,nC,freeR⟩:Dep)].all (holdsV t i):=fine_at h (by rw[hi];exact of_a)
theorem g_f2 {t:List Pl} {i:Int} (h:manVal smallRoot smallX t i=some ⟨nC,v1,[],[]⟩) (hi:decide (i=0)=false):fineV smallRoot smallX t i=true:=fine_at (E:=[]) h (by rw[hi];exact of_c)
theorem g_fine {t:List Pl} {bl:List Int} {W:List Int} (hb:belowL t 0=bl) (h:(bl.filter fun i=> !fineV smallRoot smallX t i)=W):wrongL smallRoot smallX t=W:=by rw[wrongL,hb,h]
theorem g_wrong1:wrongL smallRoot smallX gT1=[1]:=by
 have f0:fineV smallRoot smallX gT1 0=true:=(g_f0 (by decide+kernel)).trans (by decide+kernel);have f1:fineV smallRoot smallX gT1 1=false:=(g_f1 (by decide+kernel) (by decide)).trans (by decide+kernel);exact g_fine (bl:=[0,1]) (by decide+kernel) (by simp[f0,f1])
theorem g_wrong2:wrongL smallRoot smallX gT2=[]:=by
 have f0:fineV smallRoot smallX gT2 0=true:=(g_f0 (by decide+kernel)).trans (by decide+kernel);have f1:fineV smallRoot smallX gT2 1=true:=(g_f1 (by decide+kernel) (by decide)).trans (by decide+kernel);have f2:fineV smallRoot smallX gT2 2=true:=g_f2 (by decide+kernel) (by decide);exact g_fine (bl:=[0,1,2]) (by decide+kernel) (by simp[f0,f1,f2])
theorem g_wrong3:wrongL smallRoot smallX gT3=[0,3]:=by
 have f0:fineV smallRoot smallX gT3 0=false:=(g_f0 (by decide+kernel)).trans (by decide+kernel);have f1:fineV smallRoot smallX gT3 1=true:=(g_f1 (by decide+kernel) (by decide)).trans (by decide+kernel);have f2:fineV smallRoot smallX gT3 2=true:=g_f2 (by decide+kernel) (by decide);have f3:fineV smallRoot smallX gT3 3=false:=by
  have:manVal smallRoot smallX gT3 3=none:=(by decide+kernel);rw[fineV,this]
 exact g_fine (bl:=[0,1,2,3]) (by decide+kernel) (by simp[f0,f1,f2,f3])
theorem g_to:toN gT3 1 ⟨1,nC,[]⟩=2:=by decide+kernel
theorem g_big:bigM smallRoot=false∧bigI smallX=false∧bigT gT1=false∧bigT gT2=false∧bigT gT3=false∧bigT []=false:=by decide+kernel
theorem g_w1:wrongR smallRoot smallX gT1=(.tup [.row 0 1,iV 0],[(3,flat iC [1])]):=by
 rw[wrongR,if_pos g_code1,if_neg (by rw[g_wrong1];simp),g_wrong1];rfl
theorem g_w2:wrongR smallRoot smallX gT2=(.tup [.v (.slice none 0 0),iV 0],[]):=by
 rw[wrongR,if_pos g_code2,if_pos g_wrong2]
theorem g_w3:wrongR smallRoot smallX gT3=(.tup [.row 0 2,iV 0],[(3,flat iC [0,3])]):=by
 rw[wrongR,if_pos g_code3,if_neg (by rw[g_wrong3];simp),g_wrong3];rfl
theorem g_v2:validN smallRoot smallX gT2=true:=by rw[validN,g_code2,g_wrong2];rfl
theorem g_v0:validN smallRoot smallX []=false:=by rw[validN,g_code0];rfl
theorem g_sz1:ValSz smallRoot smallX gT1:=valSz_of g_big.1 g_big.2.1 g_big.2.2.1
theorem g_sz2:ValSz smallRoot smallX gT2:=valSz_of g_big.1 g_big.2.1 g_big.2.2.2.1
theorem g_sz3:ValSz smallRoot smallX gT3:=valSz_of g_big.1 g_big.2.1 g_big.2.2.2.2.1
theorem g_sz0:ValSz smallRoot smallX []:=valSz_of g_big.1 g_big.2.1 g_big.2.2.2.2.2
theorem flat_rfl_x:flat Man.cells smallX=[sV nA,iV 1,iV 0,iV 0,sV ⟨#[]⟩,.sl 1 [iV 4,sV nC,.sl 1 [.sl 0 []]],.sl 0 [],sV nC,iV 1,iV 0,iV 0,sV ⟨#[]⟩,.sl 0 [],.sl 0 []]:=rfl
theorem small_ok79:CallsOK Tryz.prog 79 [] (.tup [.agg [sV ⟨#[]⟩,iV 0,iV 0,iV 0,sV ⟨#[]⟩,.row 0 2,.v (.slice none 0 0)],.row 1 2]) [(35,flat Dep.cells smallRoot.deps),(27,flat Man.cells smallX)]:=by
 refine CallsOK.weakJs (J:=[(35,flat Dep.cells smallRoot.deps),(27,[sV nA,iV 1,iV 0,iV 0,sV ⟨#[]⟩,.sl 1 [iV 4,sV nC,.sl 1 [.sl 0 []]],.v (.slice none 0 0),sV nC,iV 1,iV 0,iV 0,sV ⟨#[]⟩,.v (.slice none 0 0),.v (.slice none 0 0)])]) ?_ rfl ?_
 ·refine callsOK mixed Tryz.call79 Tryz.func79 rfl (by rw[Tryz.ntmps79];simp) ?_ rfl;rw[Tryz.ntmps79];with_reducible refine aR fun K' hK=> ?_
  simp;refine hK _ _ _ ?_;clear K' hK;with_reducible refine aR fun K' hK=> ?_
  simp;refine hK _ _ _ ?_;clear K' hK;with_reducible refine aR fun K' hK=> ?_
  simp;refine acall_new free_ok (by simp) ?_;simp[addJ_one];refine acall_new two_ok (by simp) ?_;simp[addJ_one];refine hK _ _ _ ?_;clear K' hK;refine aw_regionL (some 0) [3,2] (by decide+kernel) (by decide+kernel) (fun p' hp'=>by cases hp';exact⟨0,0,by simp,by simp[rootA]⟩) fun K' hK=> ?_;simp;refine acall_new free_ok (by simp) ?_;simp[addJ_one];refine hK _ _ _ ?_;clear K' hK;with_reducible refine aw_retL ?_
  simp[blockK,loopK,Post,resA,res1,expT,expA,exp1,expM,expL,okT,okA,ok1,rowOf,Tryz.f79];exact⟨rfl,rfl,⟨rfl,rfl⟩,rfl⟩
 ·intro i e cs h
  match i with
  | 0=>simp at h;obtain⟨rfl,rfl⟩:=h;exact⟨_,rfl,WkTL.refl _⟩
  | 1=>
   simp at h;obtain⟨rfl,rfl⟩:=h;rw[flat_rfl_x];exact⟨_,rfl,.cons (.refl _) (.cons (.refl _) (.cons (.refl _) (.cons (.refl _) (.cons (.refl _) (.cons (.refl _) (.cons .nil (.cons (.refl _) (.cons (.refl _) (.cons (.refl _) (.cons (.refl _) (.cons (.refl _) (.cons .nil (.cons .nil .nil)))))))))))))⟩
  | i+2=>simp at h
set_option maxRecDepth 100000
set_option maxHeartbeats 4000000
def smallA:List AV:=[sV ⟨#[]⟩,iV 0,iV 0,iV 0,sV ⟨#[]⟩,rowT Dep.cells smallRoot.deps,.v (.slice none 0 0)]
theorem wk_small {P:Program} [Gl P]:Wk P (.agg smallA) (.agg smallRoot.cells):=
 .agg (.cons (.refl _) (.cons (.refl _) (.cons (.refl _) (.cons (.refl _) (.cons (.refl _) (.cons (.refl _) (.cons .nilRow .nil)))))))
theorem g_wrong1_ok:CallsOK Tryz.prog 35 [.agg smallA,rowT Man.cells smallX,rowT Pl.cells gT1] (.tup [.row 0 1,iV 0]) [(3,flat iC [1])]:=by
 have:=wrong35_ok _ _ _ g_sz1;rw[g_w1]at this;exact this.weak (.cons wk_small (.cons (.refl _) (.cons (.refl _) .nil)))
theorem g_wrong2_ok:CallsOK Tryz.prog 35 [.agg smallA,rowT Man.cells smallX,rowT Pl.cells gT2] (.tup [.v (.slice none 0 0),iV 0]) []:=by
 have:=wrong35_ok _ _ _ g_sz2;rw[g_w2]at this;exact this.weak (.cons wk_small (.cons (.refl _) (.cons (.refl _) .nil)))
theorem g_wrong3_ok:CallsOK Tryz.prog 35 [.agg smallA,rowT Man.cells smallX,rowT Pl.cells gT3] (.tup [.row 0 2,iV 0]) [(3,flat iC [0,3])]:=by
 have:=wrong35_ok _ _ _ g_sz3;rw[g_w3]at this;exact this.weak (.cons wk_small (.cons (.refl _) (.cons (.refl _) .nil)))
theorem g_valid2_ok:CallsOK Tryz.prog 38 [.agg smallA,rowT Man.cells smallX,rowT Pl.cells gT2] (bV true) []:=by
 have:=valid38_ok _ _ _ g_sz2;rw[g_v2]at this;exact this.weak (.cons wk_small (.cons (.refl _) (.cons (.refl _) .nil)))
theorem g_valid0_ok:CallsOK Tryz.prog 38 [.agg smallA,rowT Man.cells smallX,.v (.slice none 0 0)] (bV false) []:=by
 have:=valid38_ok _ _ _ g_sz0;rw[g_v0]at this;exact this.weak (.cons wk_small (.cons (.refl _) (.cons .nilRow .nil)))
theorem g_to_ok:CallsOK Tryz.prog 28 [rowT Pl.cells gT3,iV 1,.agg [iV 1,sV nC,.v (.slice none 0 0)]] (iV 2) []:=by
 have:=to28_ok gT3 g_sz3.2.2.2.2.1 1 ⟨1,nC,[]⟩;rw[g_to]at this;exact this.weak (.cons (.refl _) (.cons (.refl _) (.cons (.agg (.cons (.refl _) (.cons (.refl _) (.cons .nilRow .nil)))) .nil)))
set_option maxRecDepth 100000
set_option maxHeartbeats 8000000
theorem gives26_ok:CallsOK Tryz.prog 26 [] (bV true) []:=by
 refine callsOK mixed Tryz.call26 Tryz.func26 rfl (by rw[Tryz.ntmps26];simp) ?_ rfl;rw[Tryz.ntmps26];with_reducible refine aR fun K' hK=> ?_
 simp;refine hK _ _ _ ?_;clear K' hK;with_reducible refine aR fun K' hK=> ?_
 simp;refine acall_new small_ok79 (by simp) ?_;simp[addJ_two];refine hK _ _ _ ?_;clear K' hK;with_reducible refine aR fun K' hK=> ?_
 simp;refine hK _ _ _ ?_;clear K' hK;with_reducible refine aR fun K' hK=> ?_
 simp;refine hK _ _ _ ?_;clear K' hK;refine aw_gen (fun s G nx=>s 1=.ptr 2 0∧s 2=.row 1 2∧s 3=.ptr 3 0∧s 4=.row 4 2∧nx=5∧G 0=some (.row 35 (flat Dep.cells smallRoot.deps))∧G 1=some (.row 27 (flat Man.cells smallX))∧G 2=some (.var 27 [sV ⟨#[]⟩,iV 0,iV 0,iV 0,sV ⟨#[]⟩,.row 0 2,.v (.slice none 0 0)])∧G 3=some (.var 23 v1.cells)∧G 4=some (.row 58 (flat Pl.cells gT1))) ?_ ?_
 ·exact⟨by simp,by simp,by simp,by simp,by simp,by simp,by simp,by simp,by simp;rfl,by simp;rfl⟩
 rintro s G nx ⟨s1,s2,s3,s4,rfl,g0,g1,g2,g3,g4⟩;have c35:Tryz.prog.cellsOf 35=3:=(by kernel_rfl);have c27:Tryz.prog.cellsOf 27=7:=(by kernel_rfl);have c58:Tryz.prog.cellsOf 58=6:=(by kernel_rfl);have t0:treeOf Tryz.prog G (.row 0 2)=some (rowT Dep.cells smallRoot.deps):=treeOf_of g0 c35 rfl;have t1:treeOf Tryz.prog G (.row 1 2)=some (rowT Man.cells smallX):=treeOf_of g1 c27 rfl;have t4:treeOf Tryz.prog G (.row 4 2)=some (rowT Pl.cells gT1):=treeOf_of g4 c58 rfl;have sees:∀ {x T},treeOf Tryz.prog G x=some T→(∃i n,x=.row i n)→seesA Tryz.prog G [.agg [sV ⟨#[]⟩,iV 0,iV 0,iV 0,sV ⟨#[]⟩,.row 0 2,.v (.slice none 0 0)],.row 1 2,x]=some [.agg smallA,rowT Man.cells smallX,T]:=by
  rintro x T hx ⟨i,n,rfl⟩;simp only[seesA,seeA,looksA,lookA,t0,t1,hx];rfl
 with_reducible refine aR fun K' hK=> ?_
 simp[s1,s2,s4,g2];refine acall_keep g_wrong1_ok ⟨rfl,rfl⟩ (sees t4 ⟨_,_,rfl⟩) ?_;simp[addJ_one];refine hK _ _ _ ?_;clear K' hK;with_reducible refine aR fun K' hK=> ?_
 simp[s3,s4,g3,g4,treeOf_row,srcOf_row];refine hK _ _ _ ?_;clear K' hK;refine aw_gen (fun s G nx=>s 1=.ptr 2 0∧s 2=.row 1 2∧s 3=.ptr 3 0∧s 4=.row 7 3∧s 5=.row 5 1∧s 6=iV 0∧nx=8∧G 0=some (.row 35 (flat Dep.cells smallRoot.deps))∧G 1=some (.row 27 (flat Man.cells smallX))∧G 2=some (.var 27 [sV ⟨#[]⟩,iV 0,iV 0,iV 0,sV ⟨#[]⟩,.row 0 2,.v (.slice none 0 0)])∧G 3=some (.var 23 v1.cells)∧G 5=some (.row 3 (flat iC [1]))∧G 7=some (.row 58 (flat Pl.cells gT2))) ?_ ?_
 ·exact⟨by simp[s1],by simp[s2],by simp[s3],by simp,by simp,by simp,by simp,by simp[g0],by simp[g1],by simp[g2],by simp[g3],by simp,by simp;rfl⟩
 clear sees t0 t1 t4 s1 s2 s3 s4 g0 g1 g2 g3 g4 s G;rintro s G nx ⟨s1,s2,s3,s4,s5,s6,rfl,g0,g1,g2,g3,g5,g7⟩;have t0:treeOf Tryz.prog G (.row 0 2)=some (rowT Dep.cells smallRoot.deps):=treeOf_of g0 c35 rfl;have t1:treeOf Tryz.prog G (.row 1 2)=some (rowT Man.cells smallX):=treeOf_of g1 c27 rfl;have t7:treeOf Tryz.prog G (.row 7 3)=some (rowT Pl.cells gT2):=treeOf_of g7 c58 rfl;have sees:seesA Tryz.prog G [.agg [sV ⟨#[]⟩,iV 0,iV 0,iV 0,sV ⟨#[]⟩,.row 0 2,.v (.slice none 0 0)],.row 1 2,.row 7 3]=some [.agg smallA,rowT Man.cells smallX,rowT Pl.cells gT2]:=by
  simp only[seesA,seeA,looksA,lookA,t0,t1,t7];rfl
 with_reducible refine aR fun K' hK=> ?_
 simp[s1,s2,s4,g2];refine acall_keep g_wrong2_ok ⟨rfl,rfl⟩ sees ?_;simp[addJ_nil];refine hK _ _ _ ?_;clear K' hK;with_reducible refine aR fun K' hK=> ?_
 simp[s1,s2,s4,g2];refine acall_flat g_valid2_ok rfl sees ?_;simp;refine hK _ _ _ ?_;clear K' hK;with_reducible refine aR fun K' hK=> ?_
 simp[s3,s4,g3,g7,treeOf_row,srcOf_row];refine hK _ _ _ ?_;clear K' hK;refine aw_gen (fun s G nx=>s 1=.ptr 2 0∧s 2=.row 1 2∧s 4=.row 9 4∧s 5=.row 5 1∧s 6=iV 0∧s 7=.v (.slice none 0 0)∧s 8=iV 0∧s 9=bV true∧nx=10∧G 0=some (.row 35 (flat Dep.cells smallRoot.deps))∧G 1=some (.row 27 (flat Man.cells smallX))∧G 2=some (.var 27 [sV ⟨#[]⟩,iV 0,iV 0,iV 0,sV ⟨#[]⟩,.row 0 2,.v (.slice none 0 0)])∧G 5=some (.row 3 (flat iC [1]))∧G 9=some (.row 58 (flat Pl.cells gT3))) ?_ ?_
 ·exact⟨by simp[s1],by simp[s2],by simp,by simp[s5],by simp[s6],by simp,by simp,by simp,by simp,by simp[g0],by simp[g1],by simp[g2],by simp[g5],by simp;rfl⟩
 clear sees t0 t1 t7 s1 s2 s3 s4 s5 s6 g0 g1 g2 g3 g5 g7 s G;rintro s G nx ⟨s1,s2,s4,s5,s6,s7,s8,s9,rfl,g0,g1,g2,g5,g9⟩;have t0:treeOf Tryz.prog G (.row 0 2)=some (rowT Dep.cells smallRoot.deps):=treeOf_of g0 c35 rfl;have t1:treeOf Tryz.prog G (.row 1 2)=some (rowT Man.cells smallX):=treeOf_of g1 c27 rfl;have t9:treeOf Tryz.prog G (.row 9 4)=some (rowT Pl.cells gT3):=treeOf_of g9 c58 rfl;have sees:seesA Tryz.prog G [.agg [sV ⟨#[]⟩,iV 0,iV 0,iV 0,sV ⟨#[]⟩,.row 0 2,.v (.slice none 0 0)],.row 1 2,.row 9 4]=some [.agg smallA,rowT Man.cells smallX,rowT Pl.cells gT3]:=by
  simp only[seesA,seeA,looksA,lookA,t0,t1,t9];rfl
 with_reducible refine aR fun K' hK=> ?_
 simp[s1,s2,s4,g2];refine acall_keep g_wrong3_ok ⟨rfl,rfl⟩ sees ?_;simp[addJ_one];refine hK _ _ _ ?_;clear K' hK;refine aw_gen (fun s G nx=>s 1=.ptr 2 0∧s 2=.row 1 2∧s 4=.row 9 4∧s 5=.row 5 1∧s 6=iV 0∧s 7=.v (.slice none 0 0)∧s 8=iV 0∧s 9=bV true∧s 10=.row 10 2∧s 11=iV 0∧nx=11∧G 0=some (.row 35 (flat Dep.cells smallRoot.deps))∧G 1=some (.row 27 (flat Man.cells smallX))∧G 2=some (.var 27 [sV ⟨#[]⟩,iV 0,iV 0,iV 0,sV ⟨#[]⟩,.row 0 2,.v (.slice none 0 0)])∧G 5=some (.row 3 (flat iC [1]))∧G 9=some (.row 58 (flat Pl.cells gT3))∧G 10=some (.row 3 (flat iC [0,3]))) ?_ ?_
 ·exact⟨by simp[s1],by simp[s2],by simp[s4],by simp[s5],by simp[s6],by simp[s7],by simp[s8],by simp[s9],by simp,by simp,by simp,by simp[g0],by simp[g1],by simp[g2],by simp[g5],by simp[g9],by simp⟩
 clear sees t0 t1 t9 s1 s2 s4 s5 s6 s7 s8 s9 g0 g1 g2 g5 g9 s G;rintro s G nx ⟨s1,s2,s4,s5,s6,s7,s8,s9,s10,s11,rfl,g0,g1,g2,g5,g9,g10⟩;have c3:Tryz.prog.cellsOf 3=1:=(by kernel_rfl);have d1:decide (([1]:List Int)=[1])=true:=rfl;have d2:decide (([0,3]:List Int)=[0,3])=true:=rfl;have i1:CallsOK Tryz.prog 37 [rowT iC [1],rowT iC [1]] (bV true) []:=ints27_ok [1] [1] (by simp);have i2:CallsOK Tryz.prog 37 [rowT iC [0,3],rowT iC [0,3]] (bV true) []:=ints27_ok [0,3] [0,3] (by simp);have r1:∀ {H:Hp} {i:Nat} {l:List Int},H i=some (.row 3 (flat iC l))→treeOf Tryz.prog H (.row i l.length)=some (rowT iC l):=fun h=>treeOf_of h c3 rfl;with_reducible refine aR fun K' hK=> ?_
 refine aops_part 6 fun K2 hK2=> ?_;simp[s5,s6];refine acall_flat i1 rfl ?_ ?_
 ·have q1:=r1 (H:=G.upd 11 (.row 3 [iV 1])) (i:=5) (l:=[1]) (by simp[g5]);have q2:=r1 (H:=G.upd 11 (.row 3 [iV 1])) (i:=11) (l:=[1]) (by simp;rfl);simp only[seesA,seeA,lookA];simp only[List.length_cons,List.length_nil]at q1 q2;rw[q1,q2]
 simp;refine hK2 _ _ _ ?_;clear K2 hK2;have rng2:[0,1]=List.range 2:=rfl;refine aops_part 21 fun K2 hK2=> ?_;simp[s7,s8,s9,s10,s11,rng2];refine acall_flat i2 rfl ?_ ?_
 ·have q1:=r1 (H:=(G.upd 11 (.row 3 [iV 1])).upd 12 (.row 3 [iV 0,iV 3])) (i:=10) (l:=[0,3]) (by simp[g10]);have q2:=r1 (H:=(G.upd 11 (.row 3 [iV 1])).upd 12 (.row 3 [iV 0,iV 3])) (i:=12) (l:=[0,3]) (by simp;rfl);simp only[seesA,seeA,lookA];simp only[List.length_cons,List.length_nil]at q1 q2;rw[q1,q2]
 simp;refine hK2 _ _ _ ?_;clear K2 hK2;have t0:treeOf Tryz.prog ((G.upd 11 (.row 3 [iV 1])).upd 12 (.row 3 [iV 0,iV 3])) (.row 0 2)=some (rowT Dep.cells smallRoot.deps):=treeOf_of (by simp[g0]) c35 rfl;have t1:treeOf Tryz.prog ((G.upd 11 (.row 3 [iV 1])).upd 12 (.row 3 [iV 0,iV 3])) (.row 1 2)=some (rowT Man.cells smallX):=treeOf_of (by simp[g1]) c27 rfl;have t9:treeOf Tryz.prog ((G.upd 11 (.row 3 [iV 1])).upd 12 (.row 3 [iV 0,iV 3])) (.row 9 4)=some (rowT Pl.cells gT3):=treeOf_of (by simp[g9]) c58 rfl;refine aops_part 5 fun K2 hK2=> ?_;simp[s4];refine acall_flat g_to_ok rfl ?_ ?_
 ·simp only[seesA,seeA,looksA,lookA,t9];rfl
 simp;refine hK2 _ _ _ ?_;clear K2 hK2;simp[s1,s2,g2];refine acall_flat g_valid0_ok rfl ?_ ?_
 ·simp only[seesA,seeA,looksA,lookA,t0,t1];rfl
 simp;refine hK _ _ _ ?_;clear K' hK;with_reducible refine aw_retL ?_
 simp[blockK,loopK,Post,resA,res1,expT,expA,exp1,expM,expL,okT,okA,ok1,rowOf,Tryz.f26]
set_option maxRecDepth 100000
set_option maxHeartbeats 4000000
def RowI (N:Nat) (G:Hp) (x:AV) (acc:List Int):Prop:=(x=.v (.slice none 0 0)∧acc=[])∨∃r,x=.row r acc.length∧r<N∧G r=some (.row 3 (flat iC acc))∧acc≠[]
theorem RowI.keep {N N':Nat} {G G':Hp} {x:AV} {acc:List Int} (h:RowI N G x acc) (hN:N≤N') (hg:∀i,i<N→G' i=G i):RowI N' G' x acc:=by
 rcases h with h | ⟨r,h1,h2,h3,h4⟩
 ·exact .inl h
 ·exact .inr ⟨r,h1,by omega,by rw[hg r h2];exact h3,h4⟩
def man0:Man:=⟨⟨#[]⟩,⟨0,0,0,⟨#[]⟩⟩,[],[]⟩
theorem ofF_nil (rules:List Ru) (b:Bool):ofF [] rules b=[]:=by
 unfold ofF;have:(namesOf (byM b ([]:List Dep)))=[]:=rfl;rw[this];have:sortN []=[]:=List.eq_nil_of_length_eq_zero (by rw[(sortN_perm _).length_eq];rfl);rw[this];rfl
theorem ofZ_ok (rules:List Ru) (b:Bool) (hr:Ru.okL rules):CallsOK Tryz.prog 41 [.agg manN,rowT Ru.cells rules,.v (.bool b)] (.row 0 0) [(35,[])]:=by
 have h:=of10_ok man0 rules b ⟨by simp[man0],by simp[man0]⟩ hr;have e:ofF man0.deps rules b=[]:=ofF_nil rules b;rw[e]at h;exact h.weak (.cons (.agg (.cons (.refl _) (.cons (.refl _) (.cons (.refl _) (.cons (.refl _) (.cons (.refl _) (.cons .nilRow (.cons .nilRow .nil)))))))) (.cons (.refl _) (.cons (.refl _) .nil)))
theorem ofF_lenle {ds:List Dep} {rules:List Ru} {b:Bool} (h:ds.length≤1000000000):(ofF ds rules b).length≤1000000000:=by
 have h1:=byM_len b ds;unfold ofF;rw[List.length_map,(sortN_perm _).length_eq];simp only[namesOf,List.length_map];omega
theorem belowL_len {t:List Pl} {i:Int} :(belowL t i).length≤t.length:=by
 unfold belowL;split
 ·exact belowK_len
 ·simp
theorem each5_ok (root:Man) (L:List Man) (t:List Pl) (n:Int) (hl:L.length≤9223372036854775807) (htl:t.length≤9223372036854775807):CallsOK Tryz.prog 5 [.agg root.cells,rowT Man.cells L,rowT Pl.cells t,iV n] (bV true) []:=by
 refine callsOK mixed Tryz.call5 Tryz.func5 rfl (by rw[Tryz.ntmps5];simp) ?_ rfl;rw[Tryz.ntmps5];with_reducible refine aR fun K' hK=> ?_
 simp;refine hK _ _ _ ?_;clear K' hK;with_reducible refine aA ?_;refine aR fun K' hK=> ?_
 simp;refine acall_flat (big21_ok root L t hl htl) rfl (by first | rfl | (simp;done) | (simp;rfl) | (simp;exact⟨rfl,rfl⟩)) ?_;by_cases hb:bigW root L t=true
 ·simp[hb];refine hK _ _ _ ?_;clear K' hK;with_reducible refine aX (by simp) ?_;refine aA ?_;refine aR fun K' hK=> ?_
  simp;refine hK _ _ _ ?_;clear K' hK;with_reducible refine aw_ret ?_
  simp[blockK,loopK,Post,resA,res1,expT,expA,exp1,expM,expL,okT,okA,ok1,rowOf,Tryz.f5]
 ·have hb':bigW root L t=false:=(by simpa using hb);obtain⟨b1,b2,b3⟩:=bigW_sz hb';have hsz:ValSz root L t:=valSz_of b1 b2 b3;simp[hb];by_cases h0:n<0
  ·simp[h0];refine hK _ _ _ ?_;clear K' hK;with_reducible refine aX (by simp) ?_;refine aA ?_;refine aR fun K' hK=> ?_
   simp;refine hK _ _ _ ?_;clear K' hK;with_reducible refine aw_ret ?_
   simp[blockK,loopK,Post,resA,res1,expT,expA,exp1,expM,expL,okT,okA,ok1,rowOf,Tryz.f5]
  ·by_cases h1:(t.length:Int)≤n
   ·simp[h0,h1];refine hK _ _ _ ?_;clear K' hK;with_reducible refine aX (by simp) ?_;refine aA ?_;refine aR fun K' hK=> ?_
    simp;refine hK _ _ _ ?_;clear K' hK;with_reducible refine aw_ret ?_
    simp[blockK,loopK,Post,resA,res1,expT,expA,exp1,expM,expL,okT,okA,ok1,rowOf,Tryz.f5]
   ·simp[h0,h1];refine hK _ _ _ ?_;clear K' hK;with_reducible refine aYk (by simp) ?_
    have hW:=wrong35_ok root L t hsz;have hV:=valid38_ok root L t hsz;by_cases hc:codeV root L t=0
    ·have g:Good t:=check_iff.1 (codeV_zero.1 hc).2.2;have hmem:=wrong_mem (root:=root) (L:=L) g (n:=n.toNat) (by omega);rw[show((n.toNat:Nat):Int)=n by omega]at hmem;have hval:validN root L t=decide (wrongL root L t=[]):=(by simp[validN,hc]);have hM:=manVal_ok root hsz.2.1 L hsz.2.2.1.1 hsz.2.2.2.1 t hsz.2.2.2.2.1 n;have hfine:fineV root L t n=(match manVal root L t n with | none=>false | some m=>(ofF m.deps root.rules (decide (n=0))).all (holdsV t n)):=rfl;have hmm:∀m,manVal root L t n=some m→Man.sz m∧Man.okS m:=fun m hm=>by
      rcases manVal_mem hm with rfl | h
      ·exact⟨hsz.1,hsz.2.1⟩
      ·exact⟨hsz.2.2.1.2 _ h,hsz.2.2.2.1 _ h⟩
     have hWl:(wrongL root L t).length≤1000000000:=Nat.le_trans (List.length_filter_le _ _) (Nat.le_trans belowL_len (by have:=(bigT_len b3).1;omega));generalize hWL:wrongL root L t=W at*;generalize hF:fineV root L t n=F at*;refine aw_cut (fun s G nx=>s 4=.ptr 0 0∧s 1=rowT Man.cells L∧s 2=rowT Pl.cells t∧s 3=iV n∧G 0=some (.var 27 root.cells)∧s 10=iV 0∧RowI nx G (s 9) W∧0<nx) ?_ ?_
     ·by_cases hw0:W=[]
      ·rw[wrongR,if_pos hc,hWL,if_pos hw0]at hW;with_reducible refine aS fun K' hK=> ?_
       simp;refine acall_new hW (by first | rfl | (simp;done) | (simp;rfl) | (simp;exact⟨rfl,rfl⟩)) ?_;simp[addJ_nil];refine hK _ _ _ ?_;clear K' hK;with_reducible refine aw_end ?_
       exact⟨by simp,by simp,by simp,by simp,by simp,by simp,.inl ⟨by simp,hw0⟩,by omega⟩
      ·rw[wrongR,if_pos hc,hWL,if_neg hw0]at hW;with_reducible refine aS fun K' hK=> ?_
       simp;refine acall_new hW (by first | rfl | (simp;done) | (simp;rfl) | (simp;exact⟨rfl,rfl⟩)) ?_;simp[addJ_one];refine hK _ _ _ ?_;clear K' hK;with_reducible refine aw_end ?_
       exact⟨by simp,by simp,by simp,by simp,by simp,by simp,.inr ⟨1,by simp,by omega,by simp,hw0⟩,by omega⟩
     ·rintro s G nx ⟨s4,s1,s2,s3,g0,s10,hrow,hnx⟩;with_reducible refine aA ?_;refine aR fun K' hK=> ?_
      simp[s10];refine hK _ _ _ ?_;clear K' hK;with_reducible refine aYk (by simp) ?_;refine aw_un ?_
      refine aw_cut (fun s' G' nx'=>s' 4=.ptr 0 0∧s' 1=rowT Man.cells L∧s' 2=rowT Pl.cells t∧s' 3=iV n∧G' 0=some (.var 27 root.cells)∧RowI nx' G' (s' 9) W∧∃(k:Nat) (E:List Dep) (ok0:Bool),s' 12=bV ok0∧s' 13=.row k E.length∧G' k=some (.row 35 (flat Dep.cells E))∧E.length≤1000000000∧(∀d∈E,Rg.sz d.range)∧F=(ok0&&E.all (holdsV t n))) ?_ ?_
      ·have n0:¬0=nx:=(by omega);generalize manVal root L t n=mv at*;cases mv with
       | none=>
        with_reducible refine aR fun K' hK=> ?_
        simp[s4,s1,s2,s3,g0];refine acall_new hM (by first | rfl | (simp;done) | (simp;rfl) | (simp;exact⟨rfl,rfl⟩)) ?_;simp[manR,addJ_nil];refine hK _ _ _ ?_;clear K' hK;with_reducible refine aS fun K' hK=> ?_
        simp[s4,s3,g0,n0];refine acall_new (ofZ_ok root.rules (decide (n=0)) hsz.2.1.2) (by first | rfl | (simp;done) | (simp;rfl) | (simp;exact⟨rfl,rfl⟩)) ?_;simp[addJ_one];refine hK _ _ _ ?_;clear K' hK;with_reducible refine aw_end ?_
        have n1:¬0=nx+1:=(by omega);exact⟨by simp[s4],by simp[s1],by simp[s2],by simp[s3],by simp[g0,n0,n1],(by simpa using hrow.keep (by omega) (fun i hi=>by repeat rw[Hp.upd_ne _ _ (by omega)])),nx+1,[],false,by simp,by simp,by simp,by simp,by simp,by simp[hfine]⟩
       | some m=>
        obtain⟨mz,mo⟩:=hmm m rfl;with_reducible refine aR fun K' hK=> ?_
        simp[s4,s1,s2,s3,g0];refine acall_new hM (by first | rfl | (simp;done) | (simp;rfl) | (simp;exact⟨rfl,rfl⟩)) ?_;simp[manR,addJ_two];refine hK _ _ _ ?_;clear K' hK;refine aw_gen (fun u H nz=>u 4=.ptr 0 0∧u 1=rowT Man.cells L∧u 2=rowT Pl.cells t∧u 3=iV n∧u 9=s 9∧u 11=.ptr (nx+2) 0∧u 12=bV true∧nz=nx+3∧(∀k,k<nx→H k=G k)∧H nx=some (.row 35 (flat Dep.cells m.deps))∧H (nx+1)=some (.row 96 (flat Ru.cells m.rules))∧H (nx+2)=some (.var 27 (m.cellsR (.row nx m.deps.length) (.row (nx+1) m.rules.length)))) ?_ ?_
        ·exact⟨by simp[s4],by simp[s1],by simp[s2],by simp[s3],by simp,by simp,by simp,by omega,fun k hk=>by repeat rw[Hp.upd_ne _ _ (by omega)],by simp,by simp,by simp[Nat.add_comm 1 nx]⟩
        rintro u H nz ⟨u4,u1,u2,u3,u9,u11,u12,rfl,hH,k1,k2,k3⟩;have hT:=manR_trees (show¬nx+1=nx by omega) k1 k2;have h0:H 0=some (.var 27 root.cells):=(by rw[hH 0 (by omega)];exact g0);with_reducible refine aS fun K' hK=> ?_
        simp[u4,u3,u11,k3,h0];refine acall_new (of10_ok m root.rules (decide (n=0)) mo.1 hsz.2.1.2) (by simp[hT]) ?_;simp[addJ_one,hT];refine hK _ _ _ ?_;clear K' hK;with_reducible refine aw_end ?_
        have e0:¬0=nx+3:=(by omega);have e1:¬0=nx:=(by omega);have e2:¬0=nx+1:=(by omega);exact⟨by simp[u4],by simp[u1],by simp[u2],by simp[u3],by simp[e0,e1,e2,h0],by simp[u9];exact hrow.keep (by omega) (fun i hi=>by rw[Hp.upd_ne _ _ (by omega),frzOf_ne (by omega),frzOf_ne (by omega)];exact hH i hi),nx+3,ofF m.deps root.rules (decide (n=0)),true,by simp[u12],by simp,by simp,ofF_lenle mz.2.2.1.1,fun d hd=>by
         rcases ofF_range hd with⟨e,he,h⟩ | ⟨e,he,h⟩
         ·rw[h];exact(mz.2.2.1.2 e he).2
         ·rw[h];exact(hsz.1.2.2.2.2 e he).2,by simp[hfine]⟩
      ·clear s4 s1 s2 s3 g0 s10 hrow hnx s G nx;rintro s G nx ⟨s4,s1,s2,s3,g0,hrow,k,E,ok0,s12,s13,gk,hEl,hEz,hFE⟩;have o9:∃x9,s 9=x9:=⟨_,rfl⟩;obtain⟨x9,o9⟩:=o9;with_reducible refine aA ?_;refine aw_un ?_
       refine aw_cut (fun s' G' nx'=>G'=G∧nx'=nx∧s' 4=.ptr 0 0∧s' 1=rowT Man.cells L∧s' 2=rowT Pl.cells t∧s' 3=iV n∧s' 9=x9∧s' 12=bV F) ?_ ?_
       ·skip;with_reducible refine aR fun K' hK=> ?_
        simp;refine hK _ _ _ ?_;clear K' hK;with_reducible refine aw_toS (aw_block ?_)
        refine aw_loop (fun s' G' nx'=>G'=G∧nx'=nx∧s' 4=.ptr 0 0∧s' 1=rowT Man.cells L∧s' 2=rowT Pl.cells t∧s' 3=iV n∧s' 9=x9∧s' 13=.row k E.length∧∃j:Nat,s' 14=iV j∧j≤E.length∧s' 12=bV (ok0&&(E.take j).all (holdsV t n))) (fun s _ _=>match s 14 with | .v (.int _ n)=>E.length-n.toNat | _=>0) ?_ ?_
        ·exact⟨rfl,rfl,by simp[s4],by simp[s1],by simp[s2],by simp[s3],by simp[o9],by simp[s13],0,by simp,by omega,by simp[s12]⟩
        ·clear s12;rintro u H nz hf ⟨rfl,rfl,u4,u1,u2,u3,u9,u13,j,u14,hj,u12⟩;have hw:IntKind.i64.wrap (↑j+1)=((j+1:Nat):Int):=wrapS (by omega);by_cases hj2:j<E.length
         ·have hstep:=all_take1 (p:=holdsV t n) hj2;have hall:(ok0&&(E.take j).all (holdsV t n))=false→F=false:=fun h=>by
           rw[hFE];cases ok0 with
           | false=>rfl
           | true=>
            simp only[Bool.true_and]at h⊢;rw[←List.take_append_drop j E,List.all_append,h];rfl
          generalize hcur:(ok0&&(E.take j).all (holdsV t n))=cur at*;cases cur with
          | false=>
           with_reducible refine aA ?_;refine aR fun K' hK=> ?_
           simp[u13,u14,u12,gk,hj2];refine hK _ _ _ ?_;clear K' hK;with_reducible refine aY (by simp) ?_;refine aw_exit ?_
           refine loopK_exit (blockK_exit ?_);with_reducible refine aw_end ?_
           exact⟨rfl,rfl,by simp[u4],by simp[u1],by simp[u2],by simp[u3],by simp[u9],by simp[u12,hall rfl]⟩
          | true=>
           with_reducible refine aA ?_;refine aR fun K' hK=> ?_
           simp[u13,u14,u12,gk,hj2];refine hK _ _ _ ?_;clear K' hK;with_reducible refine aXk (by simp) ?_
           have hdz:=hEz _ (nth_mem hj2);with_reducible refine aw_block ?_;refine aS fun K' hK=> ?_
           simp[u2,u3,u13,u14,gk,hj2];refine acall_flat (holds30_ok t hsz.2.2.2.2.1 hsz.2.2.2.2.2 n (nth E j) hdz) rfl (by first | rfl | (simp;done) | (simp;rfl) | (simp;exact⟨rfl,rfl⟩)) ?_;simp;refine hK _ _ _ ?_;clear K' hK;with_reducible refine aw_skipL ?_
           refine blockK_normal ?_;with_reducible refine aS fun K' hK=> ?_
           simp[u14,hw];refine hK _ _ _ ?_;clear K' hK;refine aw_skipL (loopK_normal ?_ ?_)
           ·exact⟨rfl,rfl,by simp[u4],by simp[u1],by simp[u2],by simp[u3],by simp[u9],by simp[u13],j+1,by simp[hw],by omega,by rw[hstep,←Bool.and_assoc,hcur];simp⟩
           ·simp[u14,hw];omega
         ·have hjE:j=E.length:=(by omega);rw[hjE,List.take_length,←hFE]at u12;with_reducible refine aA ?_;refine aR fun K' hK=> ?_
          simp[u13,u14,u12,gk,hj2];refine hK _ _ _ ?_;clear K' hK;with_reducible refine aY (by simp) ?_;refine aw_exit ?_
          refine loopK_exit (blockK_exit ?_);with_reducible refine aw_end ?_
          exact⟨rfl,rfl,by simp[u4],by simp[u1],by simp[u2],by simp[u3],by simp[u9],by simp[u12]⟩
       ·rw[o9]at hrow;clear s4 s1 s2 s3 s12 s13 gk hEl hEz hFE o9;rintro u H nz ⟨rfl,rfl,s4,s1,s2,s3,s9,s12⟩;with_reducible refine aw_un ?_
        refine aw_cut (fun s' G' nx'=>G'=H∧s' 4=.ptr 0 0∧s' 1=rowT Man.cells L∧s' 2=rowT Pl.cells t∧s' 9=x9∧s' 12=bV F∧s' 15=bV (W.any fun x=>decide (x=n))) ?_ ?_
        ·skip;with_reducible refine aR fun K' hK=> ?_
         simp;refine hK _ _ _ ?_;clear K' hK;with_reducible refine aR fun K' hK=> ?_
         simp;refine hK _ _ _ ?_;clear K' hK;with_reducible refine aw_toS (aw_block ?_)
         refine aw_loop (fun s' G' nx'=>G'=H∧s' 4=.ptr 0 0∧s' 1=rowT Man.cells L∧s' 2=rowT Pl.cells t∧s' 3=iV n∧s' 9=x9∧s' 12=bV F∧∃j:Nat,s' 16=iV j∧j≤W.length∧s' 15=bV ((W.take j).any fun x=>decide (x=n))) (fun s _ _=>match s 16 with | .v (.int _ n)=>W.length-n.toNat | _=>0) ?_ ?_
         ·exact⟨rfl,by simp[s4],by simp[s1],by simp[s2],by simp[s3],by simp[s9],by simp[s12],0,by simp,by omega,by simp⟩
         ·rintro v G' nz' hf ⟨rfl,v4,v1,v2,v3,v9,v12,j,v16,hj,v15⟩;have hw:IntKind.i64.wrap (↑j+1)=((j+1:Nat):Int):=wrapS (by omega);rcases hrow with⟨rfl,rfl⟩ | ⟨r,rfl,hr,hG,hne⟩
          ·have hj0:j=0:=(by simpa using hj);subst hj0;with_reducible refine aA ?_;refine aR fun K' hK=> ?_
           simp[v9,v16];refine hK _ _ _ ?_;clear K' hK;with_reducible refine aY (by simp) ?_;refine aw_exit ?_
           refine loopK_exit (blockK_exit ?_);with_reducible refine aw_end ?_
           exact⟨rfl,by simp[v4],by simp[v1],by simp[v2],by simp[v9],by simp[v12],by simp[v15]⟩
          ·with_reducible refine aA ?_;refine aR fun K' hK=> ?_
           simp[v9,v16,hG];refine hK _ _ _ ?_;clear K' hK;with_reducible refine aC fun A B hA hB=> ?_
           simp;refine⟨fun hj2=>hA ?_,fun hj2=>hB ?_⟩<;>clear hA hB A B<;>(try simp at hj2)<;>(try with_reducible refine aK ?_)
           ·have hstep:=any_take1 (p:=fun x:Int=>decide (x=n)) hj2;with_reducible refine aw_block ?_
            generalize hin:((W.take j).any fun x=>decide (x=n))=y at*;cases y with
            | true=>
             with_reducible refine aS fun K' hK=> ?_
             simp[v15];refine hK _ _ _ ?_;clear K' hK;with_reducible refine aw_skipL ?_
             refine blockK_normal ?_;with_reducible refine aS fun K' hK=> ?_
             simp[v16,hw];refine hK _ _ _ ?_;clear K' hK;refine aw_skipL (loopK_normal ?_ ?_)
             ·exact⟨rfl,by simp[v4],by simp[v1],by simp[v2],by simp[v3],by simp[v9],by simp[v12],j+1,by simp[hw],by omega,by rw[hstep];simp⟩
             ·simp[v16,hw];omega
            | false=>
             with_reducible refine aS fun K' hK=> ?_
             simp[v15,v9,v16,hG,hj2,v3];refine hK _ _ _ ?_;clear K' hK;with_reducible refine aw_skipL ?_
             refine blockK_normal ?_;with_reducible refine aS fun K' hK=> ?_
             simp[v16,hw];refine hK _ _ _ ?_;clear K' hK;refine aw_skipL (loopK_normal ?_ ?_)
             ·exact⟨rfl,by simp[v4],by simp[v1],by simp[v2],by simp[v3],by simp[v9],by simp[v12],j+1,by simp[hw],by omega,by rw[hstep];simp⟩
             ·simp[v16,hw];omega
           ·skip;with_reducible refine aw_exit ?_
            refine loopK_exit (blockK_exit ?_);rw[List.take_of_length_le (by omega)]at v15;with_reducible refine aw_end ?_
            exact⟨rfl,by simp[v4],by simp[v1],by simp[v2],by simp[v9],by simp[v12],by simp[v15]⟩
        ·clear s4 s1 s2 s3 s9 s12;rintro v G' nz' ⟨rfl,s4,s1,s2,s9,s12,s15⟩;rw[hmem]at s15;have hWe:(W=[])↔W.length=0:=(by cases W<;>simp);rcases hrow with⟨rfl,rfl⟩ | ⟨r,rfl,hr,hG,hne⟩
         ·skip;with_reducible refine aR fun K' hK=> ?_
          simp[s4,s1,s2,s9,s12,s15,g0];refine acall_flat gives26_ok rfl (by simp) ?_;simp[s4,s1,s2,s9,s12,s15,g0];refine acall_flat hV rfl (by first | rfl | (simp;done) | (simp;rfl) | (simp;exact⟨rfl,rfl⟩)) ?_;simp[s9,hval];refine hK _ _ _ ?_;clear K' hK;with_reducible refine aw_retL ?_
          simp[blockK,loopK,Post,resA,res1,expT,expA,exp1,expM,expL,okT,okA,ok1,rowOf,Tryz.f5]
         ·have hl0:¬W.length=0:=fun h=>hne (hWe.2 h);with_reducible refine aR fun K' hK=> ?_
          simp[s4,s1,s2,s9,s12,s15,g0];refine acall_flat gives26_ok rfl (by simp) ?_;simp[s4,s1,s2,s9,s12,s15,g0];refine acall_flat hV rfl (by first | rfl | (simp;done) | (simp;rfl) | (simp;exact⟨rfl,rfl⟩)) ?_;simp[s9,hval,hG,hne,hl0];refine hK _ _ _ ?_;clear K' hK;with_reducible refine aw_retL ?_
          simp[blockK,loopK,Post,resA,res1,expT,expA,exp1,expM,expL,okT,okA,ok1,rowOf,Tryz.f5]
    ·rw[wrongR,if_neg hc]at hW;have hval:validN root L t=false:=(by simp[validN,hc]);with_reducible refine aR fun K' hK=> ?_
     simp;refine acall_new hW (by first | rfl | (simp;done) | (simp;rfl) | (simp;exact⟨rfl,rfl⟩)) ?_;simp[addJ_one];refine hK _ _ _ ?_;clear K' hK;with_reducible refine aA ?_;refine aR fun K' hK=> ?_
     simp[hc];refine hK _ _ _ ?_;clear K' hK;with_reducible refine aX (by simp) ?_;refine aA ?_;refine aR fun K' hK=> ?_
     simp;refine acall_flat gives26_ok rfl (by simp) ?_;simp;refine acall_flat hV rfl (by first | rfl | (simp;done) | (simp;rfl) | (simp;exact⟨rfl,rfl⟩)) ?_;simp[hval];refine hK _ _ _ ?_;clear K' hK;with_reducible refine aw_ret ?_
     simp[blockK,loopK,Post,resA,res1,expT,expA,exp1,expM,expL,okT,okA,ok1,rowOf,Tryz.f5]
set_option maxRecDepth 100000
set_option maxHeartbeats 4000000
def planC (root:Man) (L:List Man) (t:List Pl):List AV:=root.cells++[rowT Man.cells L,rowT Pl.cells t]
@[simp] theorem planC_len (root:Man) (L:List Man) (t:List Pl):(planC root L t).length=9:=rfl
@[simp] theorem plan_root (root:Man) (L:List Man) (t:List Pl):getC (planC root L t) 0 7=some root.cells:=rfl
@[simp] theorem plan_rules (root:Man) (L:List Man) (t:List Pl):getC (planC root L t) 6 1=some [rowT Ru.cells root.rules]:=rfl
@[simp] theorem plan_x (root:Man) (L:List Man) (t:List Pl):getC (planC root L t) 7 1=some [rowT Man.cells L]:=rfl
@[simp] theorem plan_t (root:Man) (L:List Man) (t:List Pl):getC (planC root L t) 8 1=some [rowT Pl.cells t]:=rfl
theorem leads_at {root:Man} {L:List Man} {t:List Pl} {n j:Nat} (hj:j<(edgesV root L t n).length):((edgesV root L t n).take (j+1)).map (toN t n)=((edgesV root L t n).take j).map (toN t n)++[toN t n (nth (edgesV root L t n) j)]:=by
 rw[List.take_add_one,List.getElem?_eq_getElem hj,←nth_eq hj,Option.toList_some,List.map_append];rfl
theorem edgesV_len {root:Man} {L:List Man} {t:List Pl} {n:Nat} (hr:Man.sz root) (hL:Idx.sz L):(edgesV root L t n).length≤1000000000:=by
 unfold edgesV;cases hm:manVal root L t n with
 | none=>simp
 | some m=>
  have hmz:Man.sz m:=by
   rcases manVal_mem hm with rfl | h
   ·exact hr
   ·exact hL.2 _ h
  exact ofF_lenle hmz.2.2.1.1
theorem leads105 {root:Man} {L:List Man} {t:List Pl} (hsz:ValSz root L t) (g:Good t) {n:Nat} (hn:n<t.length) {Z N0:Nat} {K:AV→Hp→Nat→Prop} (Inv:List Nat→Nat→Hp→Nat→Prop)
  (hlt:∀acc q G nx,Inv acc q G nx→q<nx)
  (hst:∀acc q G nx G' nx',Inv acc q G nx→nx≤nx'→(∀k,k<nx→G' k=G k)→Inv acc q G' nx')
  (hy:∀acc q k G nx (K':AV→Hp→Nat→Prop),k∈leadsN root L t n→Inv acc q G nx→(∀G' nx' q',nx≤nx'→Inv (acc++[k]) q' G' nx'→(q'=q∨nx≤q')→(∀j,N0≤j→j<nx→j≠q→G' j=G j)→K' (bV true) G' nx')→IsLp G Z∧YldK Tryz.prog Z [iV k] K' G nx)
  {G:Hp} {q:Nat} (h0:Inv [] q G N0) (hK:∀G' nx' q',N0≤nx'→Inv (leadsN root L t n) q' G' nx'→K (.tup []) G' nx'):InlK Tryz.prog 105 [.agg (planC root L t),iV n,.yl Z] K G N0:=by
 refine inlK mixed Tryz.call105 Tryz.func105 rfl (by rw[Tryz.ntmps105];simp) fun hf=> ?_;rw[Tryz.ntmps105];obtain⟨hrz,hro,hLz,hLo,ht,hv⟩:=id hsz;have hM:=manVal_ok root hro L hLz.1 hLo t ht n;have hmm:∀m,manVal root L t n=some m→Man.sz m∧Man.okS m:=fun m hm=>by
  rcases manVal_mem hm with rfl | h
  ·exact⟨hrz,hro⟩
  ·exact⟨hLz.2 _ h,hLo _ h⟩
 have hE:edgesV root L t n=match manVal root L t n with
  | none=>[]
  | some m=>ofF m.deps root.rules (decide ((n:Int)=0)):=rfl
 have hq:=hlt _ _ _ _ h0;have hl1:∀z∈(if 0<n then[(parN t n).toNat]else[]),z∈leadsN root L t n:=fun z hz=>List.mem_append.2 (.inl hz);(repeat with_reducible refine aA ?_);(first | with_reducible refine aR fun K' hK=> ?_ | with_reducible refine aS fun K' hK=> ?_);simp;(first | refine hK _ _ _ ?_ | done);clear K' hK;(repeat with_reducible refine aA ?_);with_reducible refine aw_un ?_
 refine aw_cut (fun s G' nx'=>s 1=iV n∧s 2=.yl Z∧s 3=.ptr N0 0∧N0<nx'∧G' N0=some (.var 122 (planC root L t))∧∃q',N0≠q'∧Inv (if 0<n then[(parN t n).toNat]else[]) q' G' nx') ?_ ?_
 ·rcases Nat.eq_zero_or_pos n with rfl | hpos
  ·(repeat with_reducible refine aA ?_);(first | with_reducible refine aR fun K' hK=> ?_ | with_reducible refine aS fun K' hK=> ?_);simp;(first | refine hK _ _ _ ?_ | done);clear K' hK;repeat with_reducible refine aA ?_
   (first | with_reducible refine aC fun A B hA hB=> ?_ | with_reducible refine aD fun A B hA hB=> ?_)
   simp;refine⟨fun hc=>hA ?_,fun hc=>hB ?_⟩<;>clear hA hB A B<;>(try (simp at hc;done))<;>(try (exfalso;simp at hc;omega))<;>clear hc<;>(try with_reducible refine aK ?_);with_reducible refine aw_end ?_
   exact⟨by simp,by simp,by simp,by omega,by simp,q,by omega,by simpa using hst _ _ _ _ _ _ h0 (by omega) (fun k hk=>by rw[Hp.upd_ne _ _ (by omega)])⟩
  ·have hpos2:(0:Int)<n:=(by omega);have hp0:=(g.par n hpos hn).1;have hpe:(nth t n).par=((parN t n).toNat:Int):=(by show parN t n=_;omega);have hni:(n:Int)<t.length:=(by omega);rw[if_pos hpos];rw[if_pos hpos]at hl1;(repeat with_reducible refine aA ?_);(first | with_reducible refine aR fun K' hK=> ?_ | with_reducible refine aS fun K' hK=> ?_);simp[hpos,hpos2,hn,hni];rw[hpe];refine hy [] q _ _ _ _ (hl1 _ (by simp)) (hst _ _ _ _ _ _ h0 (by omega) (fun k hk=>by rw[Hp.upd_ne _ _ (by omega)])) (fun G2 ny q2 hny hI hq2 hG=> ?_);have hGa:G2 N0=some (.var 122 (planC root L t)):=(by rw[hG N0 (by omega) (by omega) (by omega)];simp);simp;(first | refine hK _ _ _ ?_ | done);clear K' hK;repeat with_reducible refine aA ?_
   (first | with_reducible refine aC fun A B hA hB=> ?_ | with_reducible refine aD fun A B hA hB=> ?_)
   simp;refine⟨fun hc=>hA ?_,fun hc=>hB ?_⟩<;>clear hA hB A B<;>(try (simp at hc;done))<;>(try (exfalso;simp at hc;omega))<;>clear hc<;>(try with_reducible refine aK ?_);with_reducible refine aw_end ?_
   exact⟨by simp,by simp,by simp,by omega,hGa,q2,by rcases hq2 with h | h<;>omega,by simpa using hI⟩
 clear hf h0 hq;rintro s G1 n1 ⟨s1,s2,s3,hn1,ga,q1,hq1,hI1⟩;have hq1n:=hlt _ _ _ _ hI1;generalize hP:(if 0<n then[(parN t n).toNat]else[])=PL at*;have hLd:leadsN root L t n=PL++((edgesV root L t n).map (toN t n)).filterMap natZ:=(by unfold leadsN;rw[hP]);clear hP;have hEat:=fun j=>leads_at (root:=root) (L:=L) (t:=t) (n:=n) (j:=j);have hEl:=edgesV_len (root:=root) (L:=L) (t:=t) (n:=n) hrz hLz;generalize manVal root L t n=mv at*;cases mv with
 | none=>
  (repeat with_reducible refine aA ?_);(first | with_reducible refine aR fun K' hK=> ?_ | with_reducible refine aS fun K' hK=> ?_);simp[s1,s3,ga];refine acall_new hM (by first | rfl | (simp;done) | (simp;rfl) | (simp;exact⟨rfl,rfl⟩)) ?_;simp[manR,addJ_nil];(first | refine hK _ _ _ ?_ | done);clear K' hK;(repeat with_reducible refine aA ?_);(first | with_reducible refine aR fun K' hK=> ?_ | with_reducible refine aS fun K' hK=> ?_);simp;(first | refine hK _ _ _ ?_ | done);clear K' hK;repeat with_reducible refine aA ?_
  (first | with_reducible refine aC fun A B hA hB=> ?_ | with_reducible refine aD fun A B hA hB=> ?_)
  simp;refine⟨fun hc=>hA ?_,fun hc=>hB ?_⟩<;>clear hA hB A B<;>(try (simp at hc;done))<;>(try (exfalso;simp at hc;omega))<;>clear hc<;>(try with_reducible refine aK ?_);have hE:edgesV root L t n=[]:=hE;rw[hE]at hLd;(repeat with_reducible refine aA ?_);(first | with_reducible refine aw_ret ?_ | with_reducible refine aw_retL ?_ | with_reducible refine aw_skipL ?_);simp[blockK,loopK,Post,resA,res1,expT,expA,exp1,expM,expL,okT,okA,ok1,rowOf,Tryz.f105];refine hK _ _ q1 (by omega) ?_;rw[hLd];simp only[List.map_nil,List.filterMap_nil,List.append_nil];exact hst _ _ _ _ _ _ hI1 (by omega) (fun k hk=>by rw[Hp.upd_ne _ _ (show¬k=n1 by omega),Hp.upd_ne _ _ (show¬k=n1 by omega)])
 | some m=>
  obtain⟨mz,mo⟩:=hmm m rfl;have hE:edgesV root L t n=ofF m.deps root.rules (decide ((n:Int)=0)):=hE;have hdec:decide ((n:Int)=0)=decide (n=0):=(by simp);rw[hdec]at hE;(repeat with_reducible refine aA ?_);(first | with_reducible refine aR fun K' hK=> ?_ | with_reducible refine aS fun K' hK=> ?_);simp[s1,s3,ga];refine acall_new hM (by first | rfl | (simp;done) | (simp;rfl) | (simp;exact⟨rfl,rfl⟩)) ?_;simp[manR,addJ_two];(first | refine hK _ _ _ ?_ | done);clear K' hK;(repeat with_reducible refine aA ?_);(first | with_reducible refine aR fun K' hK=> ?_ | with_reducible refine aS fun K' hK=> ?_);simp;(first | refine hK _ _ _ ?_ | done);clear K' hK;repeat with_reducible refine aA ?_
  (first | with_reducible refine aC fun A B hA hB=> ?_ | with_reducible refine aD fun A B hA hB=> ?_)
  simp;refine⟨fun hc=>hA ?_,fun hc=>hB ?_⟩<;>clear hA hB A B<;>(try (simp at hc;done))<;>(try (exfalso;simp at hc;omega))<;>clear hc<;>(try with_reducible refine aK ?_);have a0:¬N0=n1:=(by omega);have a1:¬N0=n1+1:=(by omega);have a2:¬N0=n1+2:=(by omega);refine aw_gen (fun u H nz=>u 1=iV n∧u 2=.yl Z∧u 3=.ptr N0 0∧u 6=.ptr (n1+2) 0∧nz=n1+3∧(∀k,k<n1→H k=G1 k)∧H n1=some (.row 35 (flat Dep.cells m.deps))∧H (n1+1)=some (.row 96 (flat Ru.cells m.rules))∧H (n1+2)=some (.var 27 (m.cellsR (.row n1 m.deps.length) (.row (n1+1) m.rules.length)))) ?_ ?_
  ·exact⟨by simp[s1],by simp[s2],by simp[s3],by simp[Nat.add_comm],by omega,fun k hk=>by repeat rw[Hp.upd_ne _ _ (by omega)],by simp,by simp,by simp[Nat.add_comm 1 n1]⟩
  clear s1 s2 s3;rintro u H nz ⟨u1,u2,u3,u6,rfl,hH,k1,k2,k3⟩;have hT:=manR_trees (show¬n1+1=n1 by omega) k1 k2;have h0:H N0=some (.var 122 (planC root L t)):=(by rw[hH N0 (by omega)];exact ga);(repeat with_reducible refine aA ?_);(first | with_reducible refine aR fun K' hK=> ?_ | with_reducible refine aS fun K' hK=> ?_);simp[u1,u3,u6,k3,h0];refine acall_new (of10_ok m root.rules (decide ((n:Int)=0)) mo.1 hro.2) (by simp[hT]) ?_;simp[addJ_one,hT];(first | refine hK _ _ _ ?_ | done);clear K' hK;rw[←hE];generalize edgesV root L t n=E at*;have a3:¬N0=n1+3:=(by omega);have hI2:Inv PL q1 ((frzOf (frzOf H (.row n1 m.deps.length)) (.row (n1+1) m.rules.length)).upd (n1+3) (.row 35 (flat Dep.cells E))) (n1+3+1):=hst _ _ _ _ _ _ hI1 (by omega) (fun k hk=>by rw[Hp.upd_ne _ _ (by omega),frzOf_ne (by omega),frzOf_ne (by omega),hH k hk]);(repeat with_reducible refine aA ?_);(first | with_reducible refine aw_block ?_ | with_reducible refine aw_toS (aw_block ?_));refine aw_loop (fun s G nx=>s 1=iV n∧s 2=.yl Z∧s 3=.ptr N0 0∧G N0=some (.var 122 (planC root L t))∧s 43=.row (n1+3) E.length∧s 44=iV E.length∧G (n1+3)=some (.row 35 (flat Dep.cells E))∧n1+3<nx∧∃(j q':Nat),s 45=iV j∧j≤E.length∧N0≠q'∧n1+3≠q'∧Inv (PL++((E.take j).map (toN t n)).filterMap natZ) q' G nx) (fun s _ _=>match s 45 with | .v (.int _ n)=>E.length-n.toNat | _=>0) ?_ ?_
  ·exact⟨by simp[u1],by simp[u2],by simp[u3],by simp[a0,a1,a3,h0],by simp,by simp,by simp,by omega,0,q1,by simp,by omega,by omega,by omega,by simpa using hI2⟩
  clear u1 u2 u3 u6 hH k1 k2 k3 hT h0 hI1 hI2 ga;rintro s G nx-⟨s1,s2,s3,ga,s43,s44,gE,hnx,j,q2,s45,hj,hq2,hq3,hI⟩;have hw:IntKind.i64.wrap (↑j+1)=((j+1:Nat):Int):=wrapS (by omega);have hq2n:=hlt _ _ _ _ hI;(repeat with_reducible refine aA ?_);(first | with_reducible refine aR fun K' hK=> ?_ | with_reducible refine aS fun K' hK=> ?_);simp[s44,s45];(first | refine hK _ _ _ ?_ | done);clear K' hK;(repeat with_reducible refine aA ?_);(first | with_reducible refine aC fun A B hA hB=> ?_ | with_reducible refine aD fun A B hA hB=> ?_);simp;refine⟨fun hj2=>hA ?_,fun hj2=>hB ?_⟩<;>clear hA hB A B<;>(try simp at hj2)<;>(try with_reducible refine aK ?_)
  ·have hstep:=hEat j hj2;have b1:¬N0=nx:=(by omega);have b2:¬n1+3=nx:=(by omega);have hto:=to28_ok t ht n (nth E j);have htl:∀k:Nat,toN t n (nth E j)=k→k∈leadsN root L t n:=fun k hk=>by
    rw[hLd];exact List.mem_append.2 (.inr (List.mem_filterMap.2 ⟨_,List.mem_map.2 ⟨_,nth_mem hj2,rfl⟩,by rw[hk];simp[natZ]⟩))
   generalize hz:toN t n (nth E j)=z at*;(repeat with_reducible refine aA ?_);(first | with_reducible refine aw_block ?_ | with_reducible refine aw_toS (aw_block ?_));(repeat with_reducible refine aA ?_);(first | with_reducible refine aR fun K' hK=> ?_ | with_reducible refine aS fun K' hK=> ?_);simp[s43,s45,gE,hj2];(first | refine hK _ _ _ ?_ | done);clear K' hK;(repeat with_reducible refine aA ?_);(first | with_reducible refine aR fun K' hK=> ?_ | with_reducible refine aS fun K' hK=> ?_);simp[s1,s3,ga,b1];refine acall_flat hto rfl (by first | rfl | (simp;done) | (simp;rfl) | (simp;exact⟨rfl,rfl⟩)) ?_;simp;(first | refine hK _ _ _ ?_ | done);clear K' hK;by_cases hz0:0≤z
   ·obtain⟨k,rfl⟩:∃k:Nat,z=k:=⟨z.toNat,by omega⟩;have hz2:(0:Int)≤k:=(by omega);(repeat with_reducible refine aA ?_);(first | with_reducible refine aR fun K' hK=> ?_ | with_reducible refine aS fun K' hK=> ?_);simp[s2,hz2];refine hy _ q2 _ _ _ _ (htl k rfl) (hst _ _ _ _ _ _ hI (by omega) (fun i hi=>by rw[Hp.upd_ne _ _ (show¬i=nx by omega),Hp.upd_ne _ _ (show¬i=nx by omega)])) (fun G2 ny q3 hny hI3 hq3e hG=> ?_);have hGa:G2 N0=some (.var 122 (planC root L t)):=(by rw[hG N0 (by omega) (by omega) (by omega),Hp.upd_ne _ _ b1,Hp.upd_ne _ _ b1];exact ga);have hGe:G2 (n1+3)=some (.row 35 (flat Dep.cells E)):=(by rw[hG (n1+3) (by omega) (by omega) (by omega),Hp.upd_ne _ _ b2,Hp.upd_ne _ _ b2];exact gE);simp;(first | refine hK _ _ _ ?_ | done);clear K' hK;repeat with_reducible refine aA ?_
    (first | with_reducible refine aC fun A B hA hB=> ?_ | with_reducible refine aD fun A B hA hB=> ?_)
    simp;refine⟨fun hc=>hA ?_,fun hc=>hB ?_⟩<;>clear hA hB A B<;>(try (simp at hc;done))<;>(try (exfalso;simp at hc;omega))<;>clear hc<;>(try with_reducible refine aK ?_);(first | with_reducible refine aw_skipL ?_ | skip);refine blockK_normal ?_;(repeat with_reducible refine aA ?_);(first | with_reducible refine aR fun K' hK=> ?_ | with_reducible refine aS fun K' hK=> ?_);simp[s45,hw];(first | refine hK _ _ _ ?_ | done);clear K' hK;refine aw_skipL (loopK_normal ?_ ?_)
    ·exact⟨by simp[s1],by simp[s2],by simp[s3],hGa,by simp[s43],by simp[s44],hGe,by omega,j+1,q3,by simp[hw],by omega,by rcases hq3e with h | h<;>omega,by rcases hq3e with h | h<;>omega,by
      rw[hstep,List.filterMap_append,←List.append_assoc];simpa [natZ]using hI3⟩
    ·simp[s45,hw];omega
   ·have hz2:¬(0:Int)≤z:=hz0;(repeat with_reducible refine aA ?_);(first | with_reducible refine aR fun K' hK=> ?_ | with_reducible refine aS fun K' hK=> ?_);simp[s2,hz2];(first | refine hK _ _ _ ?_ | done);clear K' hK;repeat with_reducible refine aA ?_
    (first | with_reducible refine aC fun A B hA hB=> ?_ | with_reducible refine aD fun A B hA hB=> ?_)
    simp;refine⟨fun hc=>hA ?_,fun hc=>hB ?_⟩<;>clear hA hB A B<;>(try (simp at hc;done))<;>(try (exfalso;simp at hc;omega))<;>clear hc<;>(try with_reducible refine aK ?_);(first | with_reducible refine aw_skipL ?_ | skip);refine blockK_normal ?_;(repeat with_reducible refine aA ?_);(first | with_reducible refine aR fun K' hK=> ?_ | with_reducible refine aS fun K' hK=> ?_);simp[s45,hw];(first | refine hK _ _ _ ?_ | done);clear K' hK;refine aw_skipL (loopK_normal ?_ ?_)
    ·exact⟨by simp[s1],by simp[s2],by simp[s3],by simp[b1,ga],by simp[s43],by simp[s44],by simp[b2,gE],by omega,j+1,q2,by simp[hw],by omega,by omega,by omega,by
      rw[hstep,List.filterMap_append];have e:[z].filterMap natZ=[]:=(by simp[natZ,hz0]);rw[e,List.append_nil];exact hst _ _ _ _ _ _ hI (by omega) (fun i hi=>by rw[Hp.upd_ne _ _ (show¬i=nx by omega),Hp.upd_ne _ _ (show¬i=nx by omega)])⟩
    ·simp[s45,hw];omega
  ·(repeat with_reducible refine aA ?_);(first | with_reducible refine aw_exit ?_ | with_reducible refine aw_exitL ?_);refine loopK_exit (blockK_exit ?_);have hjE:j=E.length:=(by omega);subst hjE;rw[List.take_length,←hLd]at hI;(repeat with_reducible refine aA ?_);(first | with_reducible refine aw_ret ?_ | with_reducible refine aw_retL ?_ | with_reducible refine aw_skipL ?_);simp[blockK,loopK,Post,resA,res1,expT,expA,exp1,expM,expL,okT,okA,ok1,rowOf,Tryz.f105];exact hK _ _ q2 (by omega) hI
set_option maxRecDepth 100000
set_option maxHeartbeats 4000000
def RowM (N:Nat) (G:Hp) (x:AV) (acc:List Man):Prop:=∃r,x=.row r acc.length∧r<N∧G r=some (.row 27 (flat Man.cells acc))
theorem RowM.keep {N N':Nat} {G G':Hp} {x:AV} {acc:List Man} (h:RowM N G x acc) (hN:N≤N') (hg:∀i,i<N→G' i=G i):RowM N' G' x acc:=by
 obtain⟨r,h1,h2,h3⟩:=h;exact⟨r,h1,by omega,by rw[hg r h2];exact h3⟩
def RowJ (N:Nat) (G:Hp) (x:AV) (acc:List Int):Prop:=(x=.v (.slice none 0 0)∧acc=[])∨∃r,x=.row r acc.length∧r<N∧G r=some (.row 3 (flat iC acc))
theorem RowJ.keep {N N':Nat} {G G':Hp} {x:AV} {acc:List Int} (h:RowJ N G x acc) (hN:N≤N') (hg:∀i,i<N→G i=some (.row 3 (flat iC acc))→G' i=G i):RowJ N' G' x acc:=by
 rcases h with h | ⟨r,h1,h2,h3⟩
 ·exact .inl h
 ·exact .inr ⟨r,h1,by omega,by rw[hg r h2 h3];exact h3⟩
def wrongO (root:Man) (L:List Man) (t:List Pl):List Int:=if codeV root L t=0 then wrongL root L t else[]
theorem wrongR_form (root:Man) (L:List Man) (t:List Pl):(wrongO root L t=[]∧wrongR root L t=(.tup [.v (.slice none 0 0),iV (codeV root L t)],[]))∨wrongR root L t=(.tup [.row 0 (wrongO root L t).length,iV (codeV root L t)],[(3,flat iC (wrongO root L t))]):=by
 unfold wrongR wrongO;by_cases h:codeV root L t=0
 ·rw[if_pos h,if_pos h];by_cases w:wrongL root L t=[]
  ·rw[if_pos w,h];exact .inl ⟨w,rfl⟩
  ·rw[if_neg w,h];exact .inr rfl
 ·rw[if_neg h,if_neg h];exact .inr rfl
theorem wrongO_len {root:Man} {L:List Man} {t:List Pl} :(wrongO root L t).length≤t.length:=by
 unfold wrongO;split
 ·exact Nat.le_trans (List.length_filter_le _ _) belowL_len
 ·simp
theorem names6_ok (root:Man) (L:List Man) (t:List Pl) (hl:L.length≤9223372036854775807) (htl:t.length≤9223372036854775807):CallsOK Tryz.prog 6 [.agg root.cells,rowT Man.cells L,rowT Pl.cells t] (bV true) []:=by
 refine callsOK mixed Tryz.call6 Tryz.func6 rfl (by rw[Tryz.ntmps6];simp) ?_ rfl;rw[Tryz.ntmps6];with_reducible refine aR fun K' hK=> ?_
 simp;refine hK _ _ _ ?_;clear K' hK;with_reducible refine aA ?_;refine aR fun K' hK=> ?_
 simp;refine acall_flat (big21_ok root L t hl htl) rfl (by first | rfl | (simp;done) | (simp;rfl) | (simp;exact⟨rfl,rfl⟩)) ?_;simp;refine hK _ _ _ ?_;clear K' hK;by_cases hb:bigW root L t=true
 ·skip;with_reducible refine aX (by simp[hb]) ?_;refine aA ?_;refine aR fun K' hK=> ?_
  simp;refine hK _ _ _ ?_;clear K' hK;with_reducible refine aw_ret ?_
  simp[blockK,loopK,Post,resA,res1,expT,expA,exp1,expM,expL,okT,okA,ok1,rowOf,Tryz.f6]
 ·have hb':bigW root L t=false:=(by simpa using hb);obtain⟨b1,b2,b3⟩:=bigW_sz hb';have hsz:ValSz root L t:=valSz_of b1 b2 b3;have hszF:ValSz root (L.filter (namedT t)) t:=valSz_of b1 (bigI_filter b2) b3;have hI:=(bigI_sz b2).1;have hTl:=(bigT_len b3).1;with_reducible refine aYk (by simp[hb]) ?_;refine aR fun K' hK=> ?_
  simp;refine hK _ _ _ ?_;clear K' hK;with_reducible refine aA ?_;refine aR fun K' hK=> ?_
  simp;refine hK _ _ _ ?_;clear K' hK;with_reducible refine aw_block ?_
  refine aw_loop (fun s G nx=>s 3=.ptr 0 0∧s 1=rowT Man.cells L∧s 2=rowT Pl.cells t∧G 0=some (.var 27 root.cells)∧∃i:Nat,s 8=iV i∧i≤L.length∧RowM nx G (s 7) ((L.take i).filter (namedT t))) (fun s _ _=>match s 8 with | .v (.int _ n)=>L.length-n.toNat | _=>0) ?_ ?_
  ·exact⟨by simp,by simp,by simp,by simp,0,by simp,by omega,1,by simp,by omega,by simp⟩
  ·rintro s G nx hf ⟨s3,s1,s2,g0,i,s8,hi,hrow⟩;have o8:=s8;have hw:IntKind.i64.wrap (↑i+1)=((i+1:Nat):Int):=wrapS (by omega);with_reducible refine aA ?_;refine aR fun K' hK=> ?_
   simp[s1,s8];refine hK _ _ _ ?_;clear K' hK;with_reducible refine aC fun A B hA hB=> ?_
   simp;refine⟨fun hi2=>hA ?_,fun hi2=>hB ?_⟩<;>clear hA hB A B<;>(try simp at hi2)<;>(try with_reducible refine aK ?_)
   ·have hst:(L.take (i+1)).filter (namedT t)=(L.take i).filter (namedT t)++if namedT t (nth L i)=true then[nth L i]else[]:=by
     rw[List.take_add_one,List.getElem?_eq_getElem hi2,List.filter_append,←nth_eq hi2];congr 1;cases hf2:namedT t (nth L i)<;>simp[hf2]
    have hal:((L.take i).filter (namedT t)).length≤1000:=Nat.le_trans (List.length_filter_le _ _) (by rw[List.length_take];omega);have hnm:namedT t (nth L i)=t.any fun p=>decide (p.name=(nth L i).name):=rfl;generalize hgm:nth L i=m at*;generalize (L.take i).filter (namedT t)=acc at*;with_reducible refine aw_block ?_;refine aR fun K' hK=> ?_
    simp;refine hK _ _ _ ?_;clear K' hK;with_reducible refine aA ?_;refine aR fun K' hK=> ?_
    simp;refine hK _ _ _ ?_;clear K' hK;with_reducible refine aw_block ?_
    refine aw_loop (fun s' G' nx'=>nx'=nx∧G'=G∧s' 7=s 7∧s' 3=.ptr 0 0∧s' 1=rowT Man.cells L∧s' 2=rowT Pl.cells t∧s' 8=iV i∧∃k:Nat,s' 10=iV k∧k≤t.length∧s' 9=bV ((t.take k).any fun p=>decide (p.name=m.name))) (fun s _ _=>match s 10 with | .v (.int _ n)=>t.length-n.toNat | _=>0) ?_ ?_
    ·exact⟨rfl,rfl,by simp,by simp[s3],by simp[s1],by simp[s2],by simp[s8],0,by simp,by omega,by simp⟩
    ·rintro s' G' nx' hf' ⟨rfl,rfl,u7,u3,u1,u2,u8,k,u10,hk,u9⟩;have hwk:IntKind.i64.wrap (↑k+1)=((k+1:Nat):Int):=wrapS (by omega);with_reducible refine aA ?_;refine aR fun K' hK=> ?_
     simp[u2,u10];refine hK _ _ _ ?_;clear K' hK;with_reducible refine aC fun A B hA hB=> ?_
     simp;refine⟨fun hk2=>hA ?_,fun hk2=>hB ?_⟩<;>clear hA hB A B<;>(try simp at hk2)<;>(try with_reducible refine aK ?_)
     ·have hstep:=any_take1 (p:=fun p:Pl=>decide (p.name=m.name)) hk2;with_reducible refine aw_block ?_
      generalize hin:((t.take k).any fun p=>decide (p.name=m.name))=x at*;cases x with
      | true=>
       with_reducible refine aT fun K' hK=> ?_
       simp(maxSteps:=1000000) [u9];refine hK _ _ _ ?_;clear K' hK;with_reducible refine aw_skipL ?_
       refine blockK_normal ?_;with_reducible refine aS fun K' hK=> ?_
       simp[u10,hwk];refine hK _ _ _ ?_;clear K' hK;refine aw_skipL (loopK_normal ?_ ?_)
       ·exact⟨rfl,rfl,by simp[u7],by simp[u3],by simp[u1],by simp[u2],by simp[u8],k+1,by simp[hwk],by omega,by rw[hstep];simp⟩
       ·simp[u10,hwk];omega
      | false=>
       with_reducible refine aT fun K' hK=> ?_
       simp(maxSteps:=1000000) [u9,u1,u2,u8,u10,hi2,hk2,hgm];refine hK _ _ _ ?_;clear K' hK;with_reducible refine aw_skipL ?_
       refine blockK_normal ?_;with_reducible refine aS fun K' hK=> ?_
       simp[u10,hwk];refine hK _ _ _ ?_;clear K' hK;refine aw_skipL (loopK_normal ?_ ?_)
       ·exact⟨rfl,rfl,by simp[u7],by simp[u3],by simp[u1],by simp[u2],by simp[u8],k+1,by simp[hwk],by omega,by rw[hstep];simp⟩
       ·simp[u10,hwk];omega
     ·skip;with_reducible refine aw_exit ?_
      refine loopK_exit (blockK_exit ?_);rw[List.take_of_length_le (by omega),←hnm]at u9;with_reducible refine aR fun K' hK=> ?_
      simp[u9];refine hK _ _ _ ?_;clear K' hK;by_cases hnt:namedT t m=true
      ·rw[if_pos hnt]at hst;with_reducible refine aU (by simp[hnt]) ?_
       have b1:acc.length+1≤9223372036854775807:=(by omega);have b2:(acc.length+1)*104≤140737488355328:=(by omega);have n0:¬0=nx':=(by have:=fresh_lt hf' g0;omega);have n01:¬0=nx'+1:=(by omega);obtain⟨r,hx,hr,hG⟩:=hrow;have r1:¬r=nx':=(by omega);have r2:¬nx'=r:=(by omega);with_reducible refine aR fun K' hK=> ?_
       simp[u7,hx,u1,u8,hi2,hgm,hG,r1,r2,b1,b2,treeOf_row,srcOf_row];refine hK _ _ _ ?_;clear K' hK;with_reducible refine aw_skipL ?_
       refine blockK_normal ?_;with_reducible refine aS fun K' hK=> ?_
       simp[u8,hw];refine hK _ _ _ ?_;clear K' hK;refine aw_skipL (loopK_normal ?_ ?_)
       ·have r0:¬0=r:=fun e=>(by rw[←e,g0]at hG;cases hG);exact⟨by simp[u3],by simp[u1],by simp[u2],by simp[g0,n0,n01,r0],i+1,by simp[hw],by omega,nx'+1,by rw[hst];simp,by omega,by rw[hst];simp[←flat_snoc]⟩
       ·simp[o8,u8,hw];omega
      ·rw[if_neg hnt,List.append_nil]at hst;with_reducible refine aVk (by simp[hnt]) ?_;refine aw_skipL ?_
       refine blockK_normal ?_;with_reducible refine aS fun K' hK=> ?_
       simp[u8,hw];refine hK _ _ _ ?_;clear K' hK;refine aw_skipL (loopK_normal ?_ ?_)
       ·exact⟨by simp[u3],by simp[u1],by simp[u2],by simp[g0],i+1,by simp[hw],by omega,by simp[u7,hst];exact hrow⟩
       ·simp[o8,u8,hw];omega
   ·skip;with_reducible refine aw_exit ?_
    refine loopK_exit (blockK_exit ?_);rw[List.take_of_length_le (by omega)]at hrow;have hW:=wrong35_ok root L t hsz;have hWF:=wrong35_ok root (L.filter (namedT t)) t hszF;have hfm:=wrongR_form root L t;have hfmF:=wrongR_form root (L.filter (namedT t)) t;have hol:(wrongO root L t).length≤1000000000:=Nat.le_trans wrongO_len (by omega);have hlaw:codeV root L t=0→codeV root (L.filter (namedT t)) t=0∧wrongO root L t=wrongO root (L.filter (namedT t)) t:=fun hc=>by
     have h2:=names_plain hc;exact⟨h2,by rw[wrongO,wrongO,if_pos hc,if_pos h2,wrongL_filter]⟩
    generalize wrongO root L t=W at*;generalize codeV root L t=c at*;generalize wrongO root (L.filter (namedT t)) t=W2 at*;generalize codeV root (L.filter (namedT t)) t=c2 at*;generalize wrongR root L t=RW at*;generalize wrongR root (L.filter (namedT t)) t=RW2 at*;generalize L.filter (namedT t)=Y at*;have hnx:0<nx:=fresh_lt hf g0;have n0:¬0=nx:=(by omega);obtain⟨y,s7⟩:∃y,s 7=y:=⟨_,rfl⟩;rw[s7]at hrow;refine aw_cut (fun s' G' nx'=>s' 3=.ptr 0 0∧s' 2=rowT Pl.cells t∧s' 7=y∧0<nx'∧G' 0=some (.var 27 root.cells)∧RowM nx' G' y Y∧s' 12=iV c∧RowJ nx' G' (s' 11) W) ?_ ?_
    ·rcases hfm with⟨hw,rfl⟩ | rfl
     ·skip;with_reducible refine aS fun K' hK=> ?_
      simp[s3,s1,s2,g0];refine acall_new hW (by first | rfl | (simp;done) | (simp;rfl) | (simp;exact⟨rfl,rfl⟩)) ?_;simp[addJ_nil];refine hK _ _ _ ?_;clear K' hK;with_reducible refine aw_end ?_
      exact⟨by simp[s3],by simp[s2],by simp[s7],hnx,by simp[g0],hrow,by simp,.inl ⟨by simp,hw⟩⟩
     ·skip;with_reducible refine aS fun K' hK=> ?_
      simp[s3,s1,s2,g0];refine acall_new hW (by first | rfl | (simp;done) | (simp;rfl) | (simp;exact⟨rfl,rfl⟩)) ?_;simp[addJ_one];refine hK _ _ _ ?_;clear K' hK;with_reducible refine aw_end ?_
      exact⟨by simp[s3],by simp[s2],by simp[s7],by omega,by simp[g0,n0],hrow.keep (by omega) (fun i hi=>Hp.upd_ne _ _ (by omega)),by simp,.inr ⟨nx,by simp,by omega,by simp⟩⟩
    ·clear s3 s1 s2 g0 s7 hrow hnx n0 hW hfm;rintro s G nx ⟨s3,s2,s7,hnx,g0,hrow,s12,hj⟩;obtain⟨x,s11⟩:∃x,s 11=x:=⟨_,rfl⟩;rw[s11]at hj;refine aw_cut (fun s' G' nx'=>s' 12=iV c∧s' 14=iV c2∧RowJ nx' G' (s' 11) W∧RowJ nx' G' (s' 13) W2) ?_ ?_
     ·obtain⟨r,rfl,hr,hG⟩:=hrow;have c27:Tryz.prog.cellsOf 27=7:=(by kernel_rfl);have hT:treeOf Tryz.prog G (.row r Y.length)=some (rowT Man.cells Y):=treeOf_of hG c27 rfl;have hk:∀i,i<nx→G i=some (.row 3 (flat iC W))→frzOf G (.row r Y.length) i=G i:=fun i _ hi=>frzOf_ne (fun e=>by subst e;rw[hi]at hG;injection hG with hG;injection hG with hG;cases hG);rcases hfmF with⟨hw,rfl⟩ | rfl
      ·skip;with_reducible refine aS fun K' hK=> ?_
       simp[s3,s2,s7,g0];refine acall_new hWF (by first | rfl | (simp[hT];done) | (simp[hT];rfl) | (simp[hT];exact⟨rfl,rfl⟩)) ?_;simp[addJ_nil,hT];refine hK _ _ _ ?_;clear K' hK;with_reducible refine aw_end ?_
       exact⟨by simp[s12],by simp,by simp[s11];exact hj.keep (by omega) hk,.inl ⟨by simp,hw⟩⟩
      ·skip;with_reducible refine aS fun K' hK=> ?_
       simp[s3,s2,s7,g0];refine acall_new hWF (by first | rfl | (simp[hT];done) | (simp[hT];rfl) | (simp[hT];exact⟨rfl,rfl⟩)) ?_;simp[addJ_one,hT];refine hK _ _ _ ?_;clear K' hK;with_reducible refine aw_end ?_
       exact⟨by simp[s12],by simp,by simp[s11];exact hj.keep (by omega) (fun i hi h2=>by rw[Hp.upd_ne _ _ (by omega)];exact hk i hi h2),.inr ⟨nx,by simp,by omega,by simp⟩⟩
     ·clear s3 s2 g0 s7 hnx s12 hj s11 hWF hfmF;rintro s G nx ⟨s12,s14,hj,hj2⟩;have c3:Tryz.prog.cellsOf 3=1:=(by kernel_rfl);by_cases hc:c=0
      ·obtain⟨rfl,rfl⟩:=hlaw hc;have hI:=ints27_ok W W hol;subst hc;with_reducible refine aA ?_;refine aR fun K' hK=> ?_
       simp[s12];refine hK _ _ _ ?_;clear K' hK;with_reducible refine aYk (by simp) ?_
       rcases hj with⟨h11,hW0⟩ | ⟨r,h11,hr,hG⟩
       ·rcases hj2 with⟨h13,_⟩ | ⟨r2,h13,hr2,hG2⟩
        ·subst hW0;with_reducible refine aR fun K' hK=> ?_
         simp[s14,h11,h13];refine acall_flat gives26_ok rfl (by simp) ?_;simp[s14,h11,h13];refine acall_flat (hI.weak (.cons .nilRow (.cons .nilRow .nil))) rfl (by first | rfl | (simp;done) | (simp;rfl) | (simp;exact⟨rfl,rfl⟩)) ?_;simp;refine hK _ _ _ ?_;clear K' hK;with_reducible refine aw_retL ?_
         simp[blockK,loopK,Post,resA,res1,expT,expA,exp1,expM,expL,okT,okA,ok1,rowOf,Tryz.f6]
        ·subst hW0;with_reducible refine aR fun K' hK=> ?_
         simp[s14,h11,h13];refine acall_flat gives26_ok rfl (by simp) ?_;simp[s14,h11,h13];refine acall_flat (hI.weak (.cons .nilRow (.cons (.refl _) .nil))) rfl (by simp only[seesA,seeA,lookA,show treeOf Tryz.prog G (.row r2 0)=some (rowT iC []) from treeOf_of hG2 c3 rfl]) ?_;simp;refine hK _ _ _ ?_;clear K' hK;with_reducible refine aw_retL ?_
         simp[blockK,loopK,Post,resA,res1,expT,expA,exp1,expM,expL,okT,okA,ok1,rowOf,Tryz.f6]
       ·rcases hj2 with⟨h13,hW0⟩ | ⟨r2,h13,hr2,hG2⟩
        ·subst hW0;with_reducible refine aR fun K' hK=> ?_
         simp[s14,h11,h13];refine acall_flat gives26_ok rfl (by simp) ?_;simp[s14,h11,h13];refine acall_flat (hI.weak (.cons (.refl _) (.cons .nilRow .nil))) rfl (by simp only[seesA,seeA,lookA,show treeOf Tryz.prog G (.row r 0)=some (rowT iC []) from treeOf_of hG c3 rfl]) ?_;simp;refine hK _ _ _ ?_;clear K' hK;with_reducible refine aw_retL ?_
         simp[blockK,loopK,Post,resA,res1,expT,expA,exp1,expM,expL,okT,okA,ok1,rowOf,Tryz.f6]
        ·skip;with_reducible refine aR fun K' hK=> ?_
         simp[s14,h11,h13];refine acall_flat gives26_ok rfl (by simp) ?_;simp[s14,h11,h13];refine acall_flat hI rfl (by simp only[seesA,seeA,lookA,show treeOf Tryz.prog G (.row r W.length)=some (rowT iC W) from treeOf_of hG c3 rfl,show treeOf Tryz.prog G (.row r2 W.length)=some (rowT iC W) from treeOf_of hG2 c3 rfl]) ?_;simp;refine hK _ _ _ ?_;clear K' hK;with_reducible refine aw_retL ?_
         simp[blockK,loopK,Post,resA,res1,expT,expA,exp1,expM,expL,okT,okA,ok1,rowOf,Tryz.f6]
      ·with_reducible refine aA ?_;refine aR fun K' hK=> ?_
       simp[s12,hc];refine hK _ _ _ ?_;clear K' hK;with_reducible refine aX (by simp) ?_;refine aA ?_;refine aR fun K' hK=> ?_
       simp;refine acall_flat gives26_ok rfl (by simp) ?_;simp;refine hK _ _ _ ?_;clear K' hK;with_reducible refine aw_ret ?_
       simp[blockK,loopK,Post,resA,res1,expT,expA,exp1,expM,expL,okT,okA,ok1,rowOf,Tryz.f6]
set_option maxRecDepth 100000
set_option maxHeartbeats 4000000
@[simp] theorem ty120:tyI Tryz.prog 120=some (false,1):=by kernel_rfl
def bC (b:Bool):List AV:=[bV b]
instance:Wid bC 1:=⟨fun _=>rfl,by decide⟩
@[simp] theorem bC_eq (b:Bool):bC b=[bV b]:=rfl
theorem made_bC (n:Nat):madeA [.bool false] (n*1)=flat bC (List.replicate n false):=by
 have h:∀n:Nat,flat bC (List.replicate n false)=List.replicate n (bV false):=fun n=>by
  induction n with
  | zero=>rfl
  | succ n ih=>rw[List.replicate_succ,List.replicate_succ,←ih];rfl
 rw[h];simp[madeA,madeCells,Nat.mod_one,Function.comp_def,List.map_const,List.map_const']
@[simp] theorem evCut_own (P:Program) (G:Hp) (t:TypeId) (id n:Nat) (hi:Nat→Option Nat):evCut P G t (.row id n) hi=match G id,elI P t,hi n with
  | some (.row e' cs),some (e,k,_,_),some h=>if e'=e∧h≤n∧cs.length=n*k then some (.row id h,G.upd id (.row e' (cs.take (h*k))))else none
  | _,_,_=>none:=rfl
def intsN (w:List Nat):List Int:=w.map fun(k:Nat)=>(k:Int)
@[simp] theorem intsN_len (w:List Nat):(intsN w).length=w.length:=by simp[intsN]
theorem intsN_snoc (w:List Nat) (k:Nat):intsN (w++[k])=intsN w++[(k:Int)]:=by simp[intsN]
def waitN (G:Hp):AV→Nat
 | .ptr p _=>match G p with
  | some (.var _ (.row _ n::_))=>n
  | _=>0
 | _=>0
def isOff:AV→Bool
 | .v (.bool false)=>true
 | _=>false
def offC (G:Hp) (ob:Nat):Nat:=match G ob with
 | some (.row _ cs)=>cs.countP isOff
 | _=>0
theorem off_flat (on:List Bool):(flat bC on).countP isOff=offN on:=by
 induction on with
 | nil=>rfl
 | cons b l ih=>
  have h:flat bC (b::l)=bV b::flat bC l:=rfl;rw[h,List.countP_cons,ih];unfold offN;rw[List.countP_cons];cases b<;>rfl
theorem off_rep (n:Nat):offN (List.replicate n false)=n:=by
 induction n with
 | zero=>rfl
 | succ n ih=>
  unfold offN at*;rw[List.replicate_succ,List.countP_cons,ih];rfl
def InvR (root:Man) (L:List Man) (t:List Pl) (Lq:Lp) (n0 p Z n M:Nat) (acc:List Nat) (q:Nat) (G:Hp) (nx:Nat):Prop:=∃(on:List Bool) (w:List Nat),G p=some (.var 49 [.row q w.length])∧G q=some (.row 3 (flat iC (intsN w)))∧G n0=some (.row 4 (flat bC on))∧G (n0+1)=some (.var 123 [.row n0 t.length])∧G Z=some (Lq.o .ready none)∧n0+1<q∧p≠q∧Z≠q∧q<nx∧Z<nx∧Rnd root L t n M acc on w
noncomputable def reachR (root:Man) (L:List Man) (t:List Pl):AV×Js:=(.tup [.row 0 (reachL root L t).length,iV (codeV root L t)],[(3,flat iC (reachL root L t))])
theorem reached49_ok (root:Man) (L:List Man) (t:List Pl) (h:ValSz root L t):CallsOK Tryz.prog 49 [.agg root.cells,rowT Man.cells L,rowT Pl.cells t] (reachR root L t).1 (reachR root L t).2:=by
 have hsz:=h;obtain⟨hrz,hro,hLz,hLo,ht,hv⟩:=h;have htl:=ht.1;refine callsOK mixed Tryz.call49 Tryz.func49 rfl (by rw[Tryz.ntmps49];simp) ?_ rfl;rw[Tryz.ntmps49];have hW:=wrong35_ok root L t hsz;have hfm:=wrongR_form root L t;(repeat with_reducible refine aA ?_);(first | with_reducible refine aR fun K' hK=> ?_ | with_reducible refine aS fun K' hK=> ?_);simp;(first | refine hK _ _ _ ?_ | done);clear K' hK;(repeat with_reducible refine aA ?_);first | refine aw_cut (fun s G nx=>s 1=rowT Man.cells L∧s 2=rowT Pl.cells t∧s 3=.ptr 0 0∧G 0=some (.var 27 root.cells)∧s 9=iV (codeV root L t)∧0<nx) ?_ ?_ | refine aw_toS (aw_cut (fun s G nx=>s 1=rowT Man.cells L∧s 2=rowT Pl.cells t∧s 3=.ptr 0 0∧G 0=some (.var 27 root.cells)∧s 9=iV (codeV root L t)∧0<nx) ?_ ?_)
 ·rcases hfm with⟨hw0,hfm⟩ | hfm
  ·rw[hfm]at hW;(repeat with_reducible refine aA ?_);(first | with_reducible refine aR fun K' hK=> ?_ | with_reducible refine aS fun K' hK=> ?_);simp;refine acall_new hW (by first | rfl | (simp;done) | (simp;rfl) | (simp;exact⟨rfl,rfl⟩)) ?_;simp[addJ_nil];(first | refine hK _ _ _ ?_ | done);clear K' hK;with_reducible refine aw_end ?_
   exact⟨by simp,by simp,by simp,by simp,by simp,by omega⟩
  ·rw[hfm]at hW;(repeat with_reducible refine aA ?_);(first | with_reducible refine aR fun K' hK=> ?_ | with_reducible refine aS fun K' hK=> ?_);simp;refine acall_new hW (by first | rfl | (simp;done) | (simp;rfl) | (simp;exact⟨rfl,rfl⟩)) ?_;simp[addJ_one];(first | refine hK _ _ _ ?_ | done);clear K' hK;with_reducible refine aw_end ?_
   exact⟨by simp,by simp,by simp,by simp,by simp,by omega⟩
 clear hW hfm;rintro s G n0 ⟨s1,s2,s3,g0,s9,hn0⟩;by_cases hc:codeV root L t=0
 ·have g:Good t:=check_iff.1 (codeV_zero.1 hc).2.2;have hpos:=g.pos;have hpos2:(0:Int)<t.length:=(by omega);have hR:reachL root L t=intsN (keptQ (rchB root L t) t.length):=(by unfold reachL;rw[if_pos hc];rfl);unfold reachR;rw[hR,hc];rw[hc]at s9;(repeat with_reducible refine aA ?_);(first | with_reducible refine aR fun K' hK=> ?_ | with_reducible refine aS fun K' hK=> ?_);simp[s9];(first | refine hK _ _ _ ?_ | done);clear K' hK;repeat with_reducible refine aA ?_
  (first | with_reducible refine aC fun A B hA hB=> ?_ | with_reducible refine aD fun A B hA hB=> ?_)
  simp;refine⟨fun hc=>hA ?_,fun hc=>hB ?_⟩<;>clear hA hB A B<;>(try (simp at hc;done))<;>(try (exfalso;simp at hc;omega))<;>clear hc<;>(try with_reducible refine aK ?_);(repeat with_reducible refine aA ?_);(first | with_reducible refine aR fun K' hK=> ?_ | with_reducible refine aS fun K' hK=> ?_);simp[s1,s2,s3,g0];(first | refine hK _ _ _ ?_ | done);clear K' hK;have hmk:∀(X:Hp) (m:Nat),evMake Tryz.prog X m 123 (iV t.length) (iV t.length)=some (.row m t.length,X.upd m (.row 4 (flat bC (List.replicate t.length false))),m+1):=fun X m=>by
   simp only[evMake,el123];rw[if_pos ⟨trivial,by omega,by omega,by omega⟩,Int.toNat_natCast,made_bC]
  (repeat with_reducible refine aA ?_);(first | with_reducible refine aR fun K' hK=> ?_ | with_reducible refine aS fun K' hK=> ?_);simp[s2,hmk];(first | refine hK _ _ _ ?_ | done);clear K' hK;have hp0:putO (flat bC (List.replicate t.length false)) 1 0 0 [bV true]=flat bC ((List.replicate t.length false).set 0 true):=putO_flat (by simpa using hpos) true;have hl0:0<(List.replicate t.length false).length:=(by simpa using hpos);(repeat with_reducible refine aA ?_);(first | with_reducible refine aR fun K' hK=> ?_ | with_reducible refine aS fun K' hK=> ?_);simp[hpos,hpos2,hp0,hl0];(first | refine hK _ _ _ ?_ | done);clear K' hK;(repeat with_reducible refine aA ?_);(first | with_reducible refine aR fun K' hK=> ?_ | with_reducible refine aS fun K' hK=> ?_);simp;(first | refine hK _ _ _ ?_ | done);clear K' hK;have m1:¬n0=n0+1+1:=(by omega);have m2:¬n0=n0+1+1+1:=(by omega);refine aw_gen (fun u H nz=>u 2=rowT Pl.cells t∧u 10=.mt 105 [.agg (planC root L t)]∧u 11=.ptr (n0+1) 0∧H (n0+1)=some (.var 123 [.row n0 t.length])∧n0+1<nz∧∃(on:List Bool) (w:List Nat) (p q:Nat),u 12=.ptr p 0∧H p=some (.var 49 [.row q w.length])∧H q=some (.row 3 (flat iC (intsN w)))∧H n0=some (.row 4 (flat bC on))∧n0+1<p∧n0+1<q∧p≠q∧p<nz∧q<nz∧Dfs root L t on w∧w.length+2*offN on≤2*t.length+1) ?_ ?_
  ·refine⟨by simp[s2],by simp;rfl,by simp,by simp,by omega,(List.replicate t.length false).set 0 true,[0],n0+3,n0+2,by simp,by simp,by simp[intsN];rfl,by simp[m1,m2],by omega,by omega,by omega,by omega,by omega,dfs_start g,?_⟩;have:=off_set (on:=List.replicate t.length false) (k:=0) (by simpa using hpos) (by simp[nth,hpos]);rw[off_rep]at this;simp;omega
  clear s1 s2 s3 g0 s9 hn0 hmk hp0 hl0 s G;rintro s G nx ⟨s2,s10,s11,ga,hnx,on,w,p,q,s12,gp,gq,gb,hp1,hq1,hpq,hpx,hqx,hD,hm⟩;(repeat with_reducible refine aA ?_);(first | with_reducible refine aw_block ?_ | with_reducible refine aw_toS (aw_block ?_));refine aw_loop (fun u H nz=>u 2=rowT Pl.cells t∧u 10=.mt 105 [.agg (planC root L t)]∧u 11=.ptr (n0+1) 0∧H (n0+1)=some (.var 123 [.row n0 t.length])∧n0+1<nz∧∃(on:List Bool) (w:List Nat) (p q:Nat),u 12=.ptr p 0∧H p=some (.var 49 [.row q w.length])∧H q=some (.row 3 (flat iC (intsN w)))∧H n0=some (.row 4 (flat bC on))∧n0+1<p∧n0+1<q∧p≠q∧p<nz∧q<nz∧Dfs root L t on w∧w.length+2*offN on≤2*t.length+1) (fun s G _=>waitN G (s 12)+2*offC G n0) ?_ ?_
  ·exact⟨s2,s10,s11,ga,hnx,on,w,p,q,s12,gp,gq,gb,hp1,hq1,hpq,hpx,hqx,hD,hm⟩
  ·clear s2 s10 s11 ga hnx s12 gp gq gb hp1 hq1 hpq hpx hqx hD hm on w p q;rintro s G nx-⟨s2,s10,s11,ga,hnx,on,w,p,q,s12,gp,gq,gb,hp1,hq1,hpq,hpx,hqx,hD,hm⟩;have hmsr:waitN G (s 12)+2*offC G n0=w.length+2*offN on:=(by rw[s12];simp only[waitN,gp,offC,gb,off_flat]);rw[hmsr];clear hmsr;rcases List.eq_nil_or_concat w with rfl | ⟨w0,n,rfl⟩
   ·(repeat with_reducible refine aA ?_);(first | with_reducible refine aR fun K' hK=> ?_ | with_reducible refine aS fun K' hK=> ?_);simp[s12,gp,gq,List.length_nil];(first | refine hK _ _ _ ?_ | done);clear K' hK;repeat with_reducible refine aA ?_
    (first | with_reducible refine aC fun A B hA hB=> ?_ | with_reducible refine aD fun A B hA hB=> ?_)
    simp;refine⟨fun hc=>hA ?_,fun hc=>hB ?_⟩<;>clear hA hB A B<;>(try (simp at hc;done))<;>(try (exfalso;simp at hc;omega))<;>clear hc<;>(try with_reducible refine aK ?_);(repeat with_reducible refine aA ?_);(first | with_reducible refine aw_exit ?_ | with_reducible refine aw_exitL ?_);refine loopK_exit (blockK_exit ?_);have hon:=dfs_end g hD;have hol:on.length=t.length:=hD.len;have hni:∀i,i<t.length→nth on i=rchB root L t i:=fun i hi=>(by rw[hon,nth_eq (by simpa using hi)];simp);clear hD hm gp gq hp1 hq1 hpq hpx hqx s12 hon;have m0:¬n0=nx:=(by omega);have ma:¬n0+1=nx:=(by omega);(repeat with_reducible refine aA ?_);(first | with_reducible refine aR fun K' hK=> ?_ | with_reducible refine aS fun K' hK=> ?_);simp;(first | refine hK _ _ _ ?_ | done);clear K' hK;(repeat with_reducible refine aA ?_);(first | with_reducible refine aR fun K' hK=> ?_ | with_reducible refine aS fun K' hK=> ?_);simp[s11,ga,gb,ma,m0];(first | refine hK _ _ _ ?_ | done);clear K' hK;(repeat with_reducible refine aA ?_);(first | with_reducible refine aw_block ?_ | with_reducible refine aw_toS (aw_block ?_));refine aw_loop (fun u H nz=>u 70=.row n0 t.length∧u 71=iV t.length∧H n0=some (.row 4 (flat bC on))∧∃(i q:Nat),u 72=iV i∧i≤t.length∧u 15=.row q (intsN (keptQ (rchB root L t) i)).length∧H q=some (.row 3 (flat iC (intsN (keptQ (rchB root L t) i))))∧n0≠q) (fun s _ _=>match s 72 with | .v (.int _ n)=>t.length-n.toNat | _=>0) ?_ ?_
    ·exact⟨by simp,by simp[hol],by simp[m0,gb],0,nx,by simp,by omega,by simp[intsN,keptQ],by simp[intsN,keptQ],by omega⟩
    ·clear s2 s10 s11 ga gb hnx m0 ma;rintro s G nx hf ⟨s70,s71,gb,i,q,s72,hi,s15,gq,hqb⟩;have hw:IntKind.i64.wrap (↑i+1)=((i+1:Nat):Int):=wrapS (by omega);have hbx:n0<nx:=fresh_lt hf gb;have hqx:q<nx:=fresh_lt hf gq;(repeat with_reducible refine aA ?_);(first | with_reducible refine aR fun K' hK=> ?_ | with_reducible refine aS fun K' hK=> ?_);simp[s71,s72];(first | refine hK _ _ _ ?_ | done);clear K' hK;(repeat with_reducible refine aA ?_);(first | with_reducible refine aC fun A B hA hB=> ?_ | with_reducible refine aD fun A B hA hB=> ?_);simp;refine⟨fun hi2=>hA ?_,fun hi2=>hB ?_⟩<;>clear hA hB A B<;>(try simp at hi2)<;>(try with_reducible refine aK ?_)
     ·have hi3:i<on.length:=(by omega);have hi4:(i:Int)<on.length:=(by omega);have hsn:=kq_succ (q:=rchB root L t) (k:=i);have hr:=hni i hi2;have hkl:(intsN (keptQ (rchB root L t) i)).length≤i:=(by rw[intsN_len];exact rq_le);generalize keptQ (rchB root L t) i=acc at*;generalize rchB root L t i=r at*;(repeat with_reducible refine aA ?_);(first | with_reducible refine aw_block ?_ | with_reducible refine aw_toS (aw_block ?_));(repeat with_reducible refine aA ?_);(first | with_reducible refine aR fun K' hK=> ?_ | with_reducible refine aS fun K' hK=> ?_);simp[s70,s72,gb,hi3,hi4,hr,hi2];(first | refine hK _ _ _ ?_ | done);clear K' hK;(repeat with_reducible refine aA ?_);(first | with_reducible refine aR fun K' hK=> ?_ | with_reducible refine aS fun K' hK=> ?_);simp;(first | refine hK _ _ _ ?_ | done);clear K' hK;cases r with
      | false=>
       repeat with_reducible refine aA ?_
       (first | with_reducible refine aC fun A B hA hB=> ?_ | with_reducible refine aD fun A B hA hB=> ?_)
       simp;refine⟨fun hc=>hA ?_,fun hc=>hB ?_⟩<;>clear hA hB A B<;>(try (simp at hc;done))<;>(try (exfalso;simp at hc;omega))<;>clear hc<;>(try with_reducible refine aK ?_);(first | with_reducible refine aw_skipL ?_ | skip);refine blockK_normal ?_;(repeat with_reducible refine aA ?_);(first | with_reducible refine aR fun K' hK=> ?_ | with_reducible refine aS fun K' hK=> ?_);simp[s72,hw];(first | refine hK _ _ _ ?_ | done);clear K' hK;refine aw_skipL (loopK_normal ?_ ?_)
       ·exact⟨by simp[s70],by simp[s71],by simp[gb],i+1,q,by simp[hw],by omega,by simp[s15,hsn],by simp[gq,hsn],by omega⟩
       ·simp[s72,hw];omega
      | true=>
       rw[intsN_len]at hkl;have b1:acc.length≤9223372036854775806:=(by omega);have b2:(acc.length+1)*8≤140737488355328:=(by omega);have n1:¬q=nx:=(by omega);have n2:¬nx=q:=(by omega);have n3:¬n0=nx:=(by omega);have n4:¬n0=nx+1:=(by omega);have hsn2:intsN (keptQ (rchB root L t) (i+1))=intsN acc++[(i:Int)]:=(by rw[hsn,if_pos rfl,intsN_snoc]);repeat with_reducible refine aA ?_
       (first | with_reducible refine aC fun A B hA hB=> ?_ | with_reducible refine aD fun A B hA hB=> ?_)
       simp;refine⟨fun hc=>hA ?_,fun hc=>hB ?_⟩<;>clear hA hB A B<;>(try (simp at hc;done))<;>(try (exfalso;simp at hc;omega))<;>clear hc<;>(try with_reducible refine aK ?_);(repeat with_reducible refine aA ?_);(first | with_reducible refine aR fun K' hK=> ?_ | with_reducible refine aS fun K' hK=> ?_);simp[s15,gq,b1,b2,n1,n2,treeOf_row,srcOf_row];(first | refine hK _ _ _ ?_ | done);clear K' hK;(first | with_reducible refine aw_skipL ?_ | skip);refine blockK_normal ?_;(repeat with_reducible refine aA ?_);(first | with_reducible refine aR fun K' hK=> ?_ | with_reducible refine aS fun K' hK=> ?_);simp[s72,hw];(first | refine hK _ _ _ ?_ | done);clear K' hK;refine aw_skipL (loopK_normal ?_ ?_)
       ·exact⟨by simp[s70],by simp[s71],by simp[gb,n3,n4,hqb],i+1,nx+1,by simp[hw],by omega,by simp[hsn2],by simp[hsn2,←flat_snoc];rfl,by omega⟩
       ·simp[s72,hw];omega
     ·(repeat with_reducible refine aA ?_);(first | with_reducible refine aw_exit ?_ | with_reducible refine aw_exitL ?_);refine loopK_exit (blockK_exit ?_);have hie:i=t.length:=(by omega);subst hie;(repeat with_reducible refine aA ?_);(first | with_reducible refine aR fun K' hK=> ?_ | with_reducible refine aS fun K' hK=> ?_);simp[s15];(first | refine hK _ _ _ ?_ | done);clear K' hK;(repeat with_reducible refine aA ?_);(first | with_reducible refine aw_ret ?_ | with_reducible refine aw_retL ?_ | with_reducible refine aw_skipL ?_);simp[blockK,loopK,Post,resA,res1,expT,expA,exp1,expM,expL,okT,okA,ok1,rowOf,Tryz.f49,gq]
   ·rw[List.concat_eq_append]at*;have hwl:(w0++[n]).length=w0.length+1:=(by simp);rw[hwl]at gp hm⊢;have hRn:Rch root L t n:=hD.sub n (hD.win n (by simp));have hn:=rch_lt g hRn;have hil:(intsN (w0++[n])).length=w0.length+1:=(by simp[intsN]);have hi1:w0.length<(intsN (w0++[n])).length:=(by omega);have hi2:(w0.length:Int)<w0.length+1:=(by omega);have hgn:nth (intsN (w0++[n])) w0.length=n:=by
     rw[intsN_snoc];have:=nth_app_eq (l:=intsN w0) (a:=(n:Int)) (m:=[])
     rwa [intsN_len]at this
    have hcut:(flat iC (intsN (w0++[n]))).take w0.length=flat iC (intsN w0):=by
     have h1:flat iC (intsN (w0++[n]))=flat iC (intsN w0)++flat iC [(n:Int)]:=(by rw[intsN_snoc,flat_app]);have h2:w0.length=(flat iC (intsN w0)).length:=(by rw[flat_len (w:=1)];simp);rw[h1,h2,List.take_left]
    have hof:w0.length≤9000000000:=(by omega);have hw1:IntKind.i64.wrap (w0.length:Int)=w0.length:=wrap64 (by omega) (by omega);(repeat with_reducible refine aA ?_);(first | with_reducible refine aR fun K' hK=> ?_ | with_reducible refine aS fun K' hK=> ?_);simp[s12,gp,gq];(first | refine hK _ _ _ ?_ | done);clear K' hK;repeat with_reducible refine aA ?_
    (first | with_reducible refine aC fun A B hA hB=> ?_ | with_reducible refine aD fun A B hA hB=> ?_)
    simp;refine⟨fun hc=>hA ?_,fun hc=>hB ?_⟩<;>clear hA hB A B<;>(try (simp at hc;done))<;>(try (exfalso;simp at hc;omega))<;>clear hc<;>(try with_reducible refine aK ?_);(repeat with_reducible refine aA ?_);(first | with_reducible refine aw_block ?_ | with_reducible refine aw_toS (aw_block ?_));(repeat with_reducible refine aA ?_);(first | with_reducible refine aR fun K' hK=> ?_ | with_reducible refine aS fun K' hK=> ?_);simp[s12,gp,gq,hil,hi1,hi2,hgn,hw1];(first | refine hK _ _ _ ?_ | done);clear K' hK;have hqp:¬q=p:=(by omega);have hx1:¬n0=p:=(by omega);have hx2:¬n0=q:=(by omega);have hx3:¬n0+1=p:=(by omega);have hx4:¬n0+1=q:=(by omega);have hqp2:¬p=q:=(by omega);have hp6:¬p=nx:=(by omega);have hp7:¬p=nx+1:=(by omega);have hq6:¬q=nx:=(by omega);have hq7:¬q=nx+1:=(by omega);(repeat with_reducible refine aA ?_);(first | with_reducible refine aR fun K' hK=> ?_ | with_reducible refine aS fun K' hK=> ?_);simp[s12,gp,gq,hil,hi1,hi2,hgn,hw1,hcut,bnd_some,hqp,hqp2];(first | refine hK _ _ _ ?_ | done);clear K' hK;(repeat with_reducible refine aA ?_);(first | with_reducible refine aR fun K' hK=> ?_ | with_reducible refine aS fun K' hK=> ?_);simp[s10];refine acall_inlK (inlK mixed Tryz.call106 Tryz.func106 rfl (by rw[Tryz.ntmps106];simp) fun hf=> ?_);rw[Tryz.ntmps106];(repeat with_reducible refine aA ?_);(first | with_reducible refine aR fun K' hK=> ?_ | with_reducible refine aS fun K' hK=> ?_);simp;(first | refine hK _ _ _ ?_ | done);clear K' hK;(repeat with_reducible refine aA ?_);(first | with_reducible refine aR fun K' hK=> ?_ | with_reducible refine aS fun K' hK=> ?_);simp;(first | refine hK _ _ _ ?_ | done);clear K' hK;(repeat with_reducible refine aA ?_);(first | with_reducible refine aw_ret ?_ | with_reducible refine aw_retL ?_ | with_reducible refine aw_skipL ?_);simp[blockK,loopK,Post,resA,res1,expT,expA,exp1,expM,expL,okT,okA,ok1,rowOf,Tryz.f106];(first | refine hK _ _ _ ?_ | done);clear K' hK;refine aw_gen (fun u H nz=>u 2=rowT Pl.cells t∧u 10=.mt 105 [.agg (planC root L t)]∧u 11=.ptr (n0+1) 0∧u 12=.ptr p 0∧u 55=.fn 161 [.ptr (nx+1) 0,.ptr nx 0]∧nz=nx+2∧H nx=some (.var 3 [iV n])∧H (nx+1)=some (.var 120 [.mt 105 [.agg (planC root L t)]])∧H p=some (.var 49 [.row q w0.length])∧H q=some (.row 3 (flat iC (intsN w0)))∧H n0=some (.row 4 (flat bC on))∧H (n0+1)=some (.var 123 [.row n0 t.length])) ?_ ?_
    ·have k1:¬n0=nx:=(by omega);have k2:¬n0=nx+1:=(by omega);have k3:¬n0+1=nx:=(by omega);have k4:¬n0+1=nx+1:=(by omega);have k5:¬n0=nx+1+1:=(by omega);have k6:¬nx+1=nx:=(by omega);have k7:¬nx=nx+1:=(by omega);exact⟨by simp[s2],by simp[s10],by simp[s11],by simp[s12],by simp,by simp,by simp[k7],by simp[s10],by simp[hqp,hqp2,hp6,hp7],by simp[hqp,hqp2,hq6,hq7],by simp[hx1,hx2,k1,k2,gb],by simp[hx3,hx4,k3,ga,show¬n0=nx by omega]⟩
    have hR0:=rnd_start hD;clear s2 s10 s11 s12 gp gq gb ga hgn hcut hi1 hi2 hil hw1 hD;rintro u H nz ⟨s2,s10,s11,s12,s55,rfl,gn,gm,gp,gq,gb,ga⟩;generalize hZ:nx+2=Z at*;generalize hM:w0.length+2*offN on=M at*;(repeat with_reducible refine aA ?_);(first | with_reducible refine aw_block ?_ | with_reducible refine aw_toS (aw_block ?_));refine aw_range (f:=161) (fn:=Tryz.f161) mixed s55 Tryz.call161 Tryz.func161 rfl (by rw[Tryz.ntmps161];simp) rfl ?_;rw[Tryz.ntmps161];generalize hL:(Lp.mk u 84 _ _ _)=Lq;have hLs:Lq.s=u:=(by subst hL;rfl);clear hp6 hp7 hq6 hq7 hqp hqp2 hx1 hx2 hx3 hx4 hwl;have hMb:M≤2*t.length:=(by omega);have hround:∀(acc:List Nat) (q2 k:Nat) (G3:Hp) (ny:Nat) (K':AV→Hp→Nat→Prop),k∈leadsN root L t n→InvR root L t Lq n0 p Z n M acc q2 G3 ny→(∀G' nx' q',ny≤nx'→InvR root L t Lq n0 p Z n M (acc++[k]) q' G' nx'→(q'=q2∨ny≤q')→(∀j,Z+1≤j→j<ny→j≠q2→G' j=G3 j)→K' (bV true) G' nx')→IsLp G3 Z∧YldK Tryz.prog Z [iV k] K' G3 ny:=by
     subst hL;clear hf gn gm gp gq gb ga hR0 hpq hqx hq1 hm hM q on;rintro acc q k G3 ny K' hk ⟨on,w,gp,gq,gb,ga,gZ,hq1,hpq,hZq,hqn,hZn,hR⟩ k1;refine⟨⟨_,_,_,_,_,_,_,gZ⟩,?_⟩;have hkr:=lead_rch g hRn hk;have hkl:=rch_lt g hkr;have hol:on.length=t.length:=hR.len;have hko:k<on.length:=(by omega);have hki:(k:Int)<t.length:=(by omega);refine yldK mixed gZ rfl (by simp) rfl rfl fun hf=> ?_;(repeat with_reducible refine aA ?_);(first | with_reducible refine aR fun K' hK=> ?_ | with_reducible refine aS fun K' hK=> ?_);simp;(first | refine hK _ _ _ ?_ | done);clear K' hK;refine⟨rfl,gZ,?_⟩;dsimp only;generalize (Lp.mk u 84 _ _ _)=Lq at gZ k1⊢;(repeat with_reducible refine aA ?_);(first | with_reducible refine aw_block ?_ | with_reducible refine aw_toS (aw_block ?_));have z1:¬n0+1=Z:=(by omega);have z2:¬n0=Z:=(by omega);have z3:¬p=Z:=(by omega);have z4:¬q=Z:=(by omega);cases hb:nth on k with
     | true=>
      (repeat with_reducible refine aA ?_);(first | with_reducible refine aR fun K' hK=> ?_ | with_reducible refine aS fun K' hK=> ?_);simp[s11,ga,gb,z1,z2,hki,hko,hb];(first | refine hK _ _ _ ?_ | done);clear K' hK;repeat with_reducible refine aA ?_
      (first | with_reducible refine aC fun A B hA hB=> ?_ | with_reducible refine aD fun A B hA hB=> ?_)
      simp;refine⟨fun hc=>hA ?_,fun hc=>hB ?_⟩<;>clear hA hB A B<;>(try (simp at hc;done))<;>(try (exfalso;simp at hc;omega))<;>clear hc<;>(try with_reducible refine aK ?_);(first | with_reducible refine aw_skipL ?_ | skip);refine blockK_normal ?_;refine aw_skipL ?_;refine roundK_normal (by simp) ?_;refine k1 _ _ q (Nat.le_refl _) ⟨on,w,by simp[z3,gp],by simp[z4,gq],by simp[z2,gb],by simp[z1,ga],by simp,hq1,hpq,hZq,hqn,hZn,rnd_skip hR hb⟩ (.inl rfl) (fun j h1 h2 h3=>by rw[Hp.upd_ne _ _ (by omega),Hp.upd_ne _ _ (by omega)])
     | false=>
      have hR2:=rnd_put hR hb hkl hkr;have hof2:=hR2.msr;have hM2:=hR.msr;have hwb:w.length≤M:=(by omega);have b1:w.length≤9223372036854775806:=(by omega);have b2:(w.length+1)*8≤140737488355328:=(by omega);have hput:putO (flat bC on) 1 k 0 [bV true]=flat bC (on.set k true):=putO_flat hko true;have q1:¬q=ny:=(by omega);have q2:¬q=p:=(by omega);have q3:¬n0=p:=(by omega);have q4:¬n0=q:=(by omega);have q5:¬n0=ny:=(by omega);have q6:¬n0=ny+1:=(by omega);have q7:¬n0+1=p:=(by omega);have q8:¬n0+1=q:=(by omega);have q9:¬n0+1=ny:=(by omega);have q10:¬p=n0:=(by omega);have q11:¬q=n0:=(by omega);have q12:¬p=ny:=(by omega);have q13:¬p=ny+1:=(by omega);have q14:¬Z=ny:=(by omega);have q15:¬Z=ny+1:=(by omega);have q16:¬Z=p:=(by omega);have q17:¬Z=n0:=(by omega);have q18:¬Z=q:=(by omega);have q19:¬ny=p:=(by omega);have q20:¬ny=q:=(by omega);have q21:¬ny+1=p:=(by omega);have q22:¬ny+1=Z:=(by omega);have hsn:flat iC (intsN w)++[iV k]=flat iC (intsN (w++[k])):=(by rw[intsN_snoc,←flat_snoc];rfl);(repeat with_reducible refine aA ?_);(first | with_reducible refine aR fun K' hK=> ?_ | with_reducible refine aS fun K' hK=> ?_);simp[s11,ga,gb,z1,z2,hki,hko,hb];(first | refine hK _ _ _ ?_ | done);clear K' hK;repeat with_reducible refine aA ?_
      (first | with_reducible refine aC fun A B hA hB=> ?_ | with_reducible refine aD fun A B hA hB=> ?_)
      simp;refine⟨fun hc=>hA ?_,fun hc=>hB ?_⟩<;>clear hA hB A B<;>(try (simp at hc;done))<;>(try (exfalso;simp at hc;omega))<;>clear hc<;>(try with_reducible refine aK ?_);(repeat with_reducible refine aA ?_);(first | with_reducible refine aR fun K' hK=> ?_ | with_reducible refine aS fun K' hK=> ?_);simp[s11,ga,gb,z1,z2,hki,hko,hput];(first | refine hK _ _ _ ?_ | done);clear K' hK;(repeat with_reducible refine aA ?_);(first | with_reducible refine aR fun K' hK=> ?_ | with_reducible refine aS fun K' hK=> ?_);simp[s12,gp,gq,z3,z4,q1,q2,q13,hpq,q10,q11,q12,b1,b2,treeOf_row,srcOf_row];(first | refine hK _ _ _ ?_ | done);clear K' hK;(first | with_reducible refine aw_skipL ?_ | skip);refine blockK_normal ?_;refine aw_skipL ?_;refine roundK_normal (by simp[q14,q15,q16,q17,q18]) ?_;refine k1 _ _ (ny+1) (by omega) ⟨on.set k true,w++[k],by simp[z3],by simp[q21,q22,hsn],by simp[z2,q3,q4,q5,q6],by simp[z1,q7,q8,q9,ga,show¬n0=ny by omega],by simp,by omega,by omega,by omega,by omega,by omega,hR2⟩ (.inr (by omega)) (fun j h1 h2 h3=>by repeat rw[Hp.upd_ne _ _ (by omega)])
    have gnn:¬nx=Z:=(by omega);have gmm:¬nx+1=Z:=(by omega);have gpp:¬p=Z:=(by omega);have gqq:¬q=Z:=(by omega);have gaa:¬n0+1=Z:=(by omega);have gbb:¬n0=Z:=(by omega);(repeat with_reducible refine aA ?_);(first | with_reducible refine aR fun K' hK=> ?_ | with_reducible refine aS fun K' hK=> ?_);simp[gn,gm,gnn,gmm];refine acall_inlK (leads105 hsz g hn (Z:=Z) (InvR root L t Lq n0 p Z n M) ?_ ?_ hround (q:=q) ?_ ?_)
    ·rintro acc q2 G2 n2 ⟨on2,w2,e1,e2,e3,e4,e5,e6,e7,e8,e9,e10,e11⟩;exact e9
    ·rintro acc q2 G2 n2 G3 n3 ⟨on2,w2,e1,e2,e3,e4,e5,e6,e7,e8,e9,e10,e11⟩ hn3 hG;exact⟨on2,w2,by rw[hG p (by omega)];exact e1,by rw[hG q2 e9];exact e2,by rw[hG n0 (by omega)];exact e3,by rw[hG (n0+1) (by omega)];exact e4,by rw[hG Z e10];exact e5,e6,e7,e8,by omega,by omega,e11⟩
    ·exact⟨on,w0,by simp[gpp,gp],by simp[gqq,gq],by simp[gbb,gb],by simp[gaa,ga],by simp,hq1,hpq,by omega,by omega,by omega,hR0⟩
    ·rintro G' ny q' hny ⟨on2,w2,e1,e2,e3,e4,e5,e6,e7,e8,e9,e10,e11⟩;have hMe:=e11.msr;refine hK _ _ _ ?_;clear K' hK hround;refine rangeK_on (.inl rfl) e5 ?_;rw[hLs];refine blockK_normal ?_;refine aw_skipL ?_;refine blockK_normal ?_;have f1:¬p=ny:=(by omega);have f2:¬q'=ny:=(by omega);have f3:¬n0=ny:=(by omega);have f4:¬n0+1=ny:=(by omega);have f5:¬p=Z:=(by omega);have f6:¬q'=Z:=(by omega);have f7:¬n0=Z:=(by omega);have f8:¬n0+1=Z:=(by omega);(repeat with_reducible refine aA ?_);(first | with_reducible refine aR fun K' hK=> ?_ | with_reducible refine aS fun K' hK=> ?_);simp[s12,e1,f5];(first | refine hK _ _ _ ?_ | done);clear K' hK;(repeat with_reducible refine aA ?_);(first | with_reducible refine aR fun K' hK=> ?_ | with_reducible refine aS fun K' hK=> ?_);simp;(first | refine hK _ _ _ ?_ | done);clear K' hK;refine aw_skipL (loopK_normal ?_ ?_)
     ·exact⟨by simp[s2],by simp[s10],by simp[s11],by simp[f3,f4,f8,e4],by omega,on2,w2,ny,q',by simp,by simp,by simp[f2,f6,e2],by simp[f3,f7,e3],by omega,by omega,by omega,by omega,by omega,rnd_end e11,by omega⟩
     ·simp only[waitN,offC];simp[f3,f7,e3,off_flat];omega
 ·have hR:reachL root L t=[]:=(by unfold reachL;rw[if_neg hc]);unfold reachR;rw[hR];(repeat with_reducible refine aA ?_);(first | with_reducible refine aR fun K' hK=> ?_ | with_reducible refine aS fun K' hK=> ?_);simp[s9,hc];(first | refine hK _ _ _ ?_ | done);clear K' hK;repeat with_reducible refine aA ?_
  (first | with_reducible refine aC fun A B hA hB=> ?_ | with_reducible refine aD fun A B hA hB=> ?_)
  simp;refine⟨fun hc=>hA ?_,fun hc=>hB ?_⟩<;>clear hA hB A B<;>(try (simp at hc;done))<;>(try (exfalso;simp at hc;omega))<;>clear hc<;>(try with_reducible refine aK ?_);(repeat with_reducible refine aA ?_);(first | with_reducible refine aR fun K' hK=> ?_ | with_reducible refine aS fun K' hK=> ?_);simp[s9];(first | refine hK _ _ _ ?_ | done);clear K' hK;(repeat with_reducible refine aA ?_);(first | with_reducible refine aw_ret ?_ | with_reducible refine aw_retL ?_ | with_reducible refine aw_skipL ?_);simp[blockK,loopK,Post,resA,res1,expT,expA,exp1,expM,expL,okT,okA,ok1,rowOf,Tryz.f49]
set_option maxRecDepth 100000
set_option maxHeartbeats 400000
def qL (l:List Int) (n:Nat):Bool:=decide ((n:Int)∈l)
def keepAt (t:List Pl) (l:List Int) (n:Int):Bool:=decide (0≤n∧n<t.length)&&decide (parN t n.toNat= -1∨parN t n.toNat∈l)
def keepOk (t:List Pl) (l:List Int):Bool:=l.all (keepAt t l)&&decide ((0:Int)∈l)
def keepCode (t:List Pl) (l:List Int):Int:=if checkN t≠0 then checkN t else if keepOk t l=true then 0 else 151
def keepR (t:List Pl) (l:List Int):List Pl:=if keepCode t l=0 then keepT t (qL l) t.length else[]
theorem keepOk_iff {t:List Pl} {l:List Int} (g:Good t):keepOk t l=true↔(∀n∈l,0≤n∧n<t.length)∧Clo t (qL l):=by
 simp only[keepOk,keepAt,Bool.and_eq_true,List.all_eq_true,decide_eq_true_eq];constructor
 ·rintro⟨h1,h2⟩;refine⟨fun n hn=>(h1 n hn).1,by simpa [qL]using h2,fun j hj1 hj h=> ?_⟩;have:=(h1 j (by simpa [qL]using h)).2;rw[Int.toNat_natCast]at this;have hp:=g.par j hj1 hj;rcases this with h | h
  ·omega
  ·have e:(((parN t j).toNat:Nat):Int)=parN t j:=(by omega);simp only[qL,e,decide_eq_true_eq];exact h
 ·rintro⟨h1,h2⟩;refine⟨fun n hn=>⟨h1 n hn,?_⟩,by simpa [qL]using h2.zero⟩;have hb:=h1 n hn;rcases Nat.eq_zero_or_pos n.toNat with h | h
  ·left;rw[h,root_par g.root]
  ·right;have hq:qL l n.toNat=true:=by
    have:((n.toNat:Nat):Int)=n:=(by omega);simp only[qL,this,decide_eq_true_eq];exact hn
   have:=h2.par n.toNat h (by omega) hq;have hp:=g.par n.toNat h (by omega);have e:(((parN t n.toNat).toNat:Nat):Int)=parN t n.toNat:=(by omega);simpa only[qL,e,decide_eq_true_eq]using this
theorem kq_congr {q r:Nat→Bool} {k:Nat} (h:∀j,j<k→q j=r j):keptQ q k=keptQ r k:=
 List.filter_congr fun j hj=>h j (List.mem_range.1 hj)
theorem keepT_congr {t:List Pl} {q r:Nat→Bool} (g:Good t) (h:∀j,j<t.length→q j=r j):keepT t q t.length=keepT t r t.length:=by
 unfold keepT;rw[kq_congr h];refine List.map_congr_left fun j hj=> ?_;have hj2:j<t.length:=by
  unfold keptQ at hj;exact List.mem_range.1 (List.mem_filter.1 hj).1
 unfold keepP;have hd:=g.dn j hj2;have:renQ q (parN t j)=renQ r (parN t j):=by
  unfold renQ rkQ;split
  ·rfl
  ·rw[kq_congr fun i hi=>h i (by omega)]
 rw[this]
theorem qL_ints {q:Nat→Bool} {m j:Nat} (hj:j<m):qL ((keptQ q m).map fun(n:Nat)=>(n:Int)) j=q j:=by
 rw[Bool.eq_iff_iff];simp only[qL,decide_eq_true_eq,List.mem_map];constructor
 ·rintro⟨k,hk,he⟩;have:k=j:=(by omega);subst this;unfold keptQ at hk;exact(List.mem_filter.1 hk).2
 ·intro h;refine⟨j,?_,rfl⟩;unfold keptQ;exact List.mem_filter.2 ⟨List.mem_range.2 hj,h⟩
theorem keep_reach {root:Man} {L:List Man} {t:List Pl} (h:codeV root L t=0):keepCode t (reachL root L t)=0∧keepR t (reachL root L t)=pruneT root L t:=by
 have hc:=(codeV_zero.1 h).2.2;have g:Good t:=check_iff.1 hc;have c:=rch_clo (root:=root) (L:=L) g;have hq:∀j,j<t.length→qL (reachL root L t) j=rchB root L t j:=fun j hj=>by
  unfold reachL;rw[if_pos h];exact qL_ints hj
 have h1:keepCode t (reachL root L t)=0:=by
  unfold keepCode;rw[if_neg (by rw[hc];simp),if_pos];refine(keepOk_iff g).2 ⟨fun n hn=> ?_,(hq 0 g.pos).trans c.zero,fun j h1 hj hu=> ?_⟩
  ·unfold reachL at hn;rw[if_pos h]at hn;obtain⟨k,hk,rfl⟩:=List.mem_map.1 hn;unfold keptQ at hk;have:=List.mem_range.1 (List.mem_filter.1 hk).1;omega
  ·rw[hq j hj]at hu;have hp:=g.par j h1 hj;rw[hq _ (by omega)];exact c.par j h1 hj hu
 refine⟨h1,?_⟩;unfold keepR pruneT;rw[if_pos h1,if_pos h];exact keepT_congr g hq
section
variable {root:Man} {L:List Man} {t:List Pl} {q:Nat→Bool} (g:Good t) (c:Clo t q) (hq:∀j,Rch root L t j→q j=true)
include g c hq
theorem rch_sub {j:Nat} (h:Rch root L t j):Rch root L (keepT t q t.length) (rkQ q j):=by
 induction h with
 | zero=>exact .zero
 | par h h0 ih=>
  rename_i n;have hn:=rch_lt g h;rcases Nat.eq_zero_or_pos n with rfl | h1
  ·rw[root_par g.root]at h0;omega
  ·have e:=keep_par g c hn (hq n h) h1;have:=Rch.par ih (by rw[e];omega);rw[e,Int.toNat_natCast]at this;exact this
 | edge h hd hk ih=>
  rename_i n k d;have hn:=rch_lt g h;refine .edge ih (d:=d) (by rw[edges_keep g c hn (hq n h)];exact hd) ?_;rw[to_keep g c hn (hq n h) (fun k hk=>hq k (.edge h hd hk)),hk,renq_nn (by omega),Int.toNat_natCast]
theorem rch_sup {x:Nat} (h:Rch root L (keepT t q t.length) x):∃j,Rch root L t j∧rkQ q j=x:=by
 induction h with
 | zero=>exact⟨0,.zero,rfl⟩
 | par h h0 ih=>
  obtain⟨j,hj,rfl⟩:=ih;have hn:=rch_lt g hj;rcases Nat.eq_zero_or_pos j with rfl | h1
  ·rw[rq_zero,root_par (keep_root g c)]at h0;omega
  ·have e:=keep_par g c hn (hq j hj) h1;refine⟨(parN t j).toNat,.par hj (g.par j h1 hn).1,?_⟩;rw[e,Int.toNat_natCast]
 | edge h hd hk ih=>
  rename_i k d;obtain⟨j,hj,rfl⟩:=ih;have hn:=rch_lt g hj;rw[edges_keep g c hn (hq j hj)]at hd;rw[to_keep g c hn (hq j hj) (fun k hk=>hq k (.edge hj hd hk))]at hk;by_cases h0:toN t j d<0
  ·exfalso;unfold renQ at hk;rw[if_pos h0]at hk;omega
  ·have hz:toN t j d=((toN t j d).toNat:Nat):=(by omega);refine⟨(toN t j d).toNat,.edge hj hd hz,?_⟩;rw[renq_nn (by omega)]at hk;omega
theorem rch_iff {j:Nat} (hu:q j=true):rchB root L (keepT t q t.length) (rkQ q j)=rchB root L t j:=by
 rw[Bool.eq_iff_iff,rchB_iff,rchB_iff];refine⟨fun h=> ?_,rch_sub g c hq⟩;obtain⟨k,hk,e⟩:=rch_sup g c hq h;have:=rq_inj (hq k hk) hu e;subst this;exact hk
theorem keep_same:keepT (keepT t q t.length) (rchB root L (keepT t q t.length)) (keepT t q t.length).length=keepT t (rchB root L t) t.length:=by
 have hr:=fun {j:Nat} (hu:q j=true)=>rch_iff (root:=root) (L:=L) g c hq hu;have hz:=hr c.zero;rw[rq_zero]at hz;have c0:=rch_clo (root:=root) (L:=L) g;rw[keep_keep g c (fun _ _ _ _=>trivial) (hz.trans c0.zero) (fun j h1 hj hu hv=>by
  rw[hr hu]at hv;rw[hr (c.par j h1 hj hu)];exact c0.par j h1 hj hv)]
 refine keepT_congr g fun j hj=> ?_;cases hu:q j with
 | true=>rw[hr hu];rfl
 | false=>
  cases hv:rchB root L t j with
  | false=>rfl
  | true=>rw[hq j (rchB_iff.1 hv)]at hu;cases hu
end
theorem rch_up {root:Man} {L:List Man} {t:List Pl} (g:Good t):∀(m:Nat) {j x:Nat},j<m→Rch root L t j→x∈upN t j→Rch root L t x
 | 0,j,x,h,_,_=>by omega
 | m+1,j,x,hm,h,hx=>by
  have hj:=rch_lt g h;rw[up_step g.dn hj]at hx;rcases List.mem_cons.1 hx with rfl | hx
  ·exact h
  ·split at hx
   ·cases hx
   ·rename_i h0;have:=g.dn j hj;exact rch_up g m (by omega) (.par h (by omega)) hx
theorem prune_whole {root:Man} {L:List Man} {t:List Pl} (hc:codeV root L t=0) {n:Nat} (hn1:1≤n) (hn:n<t.length) (hr:¬Rch root L t n):cutCode t n=0∧codeV root L (cutR t n)=0∧pruneT root L (cutR t n)=pruneT root L t:=by
 have hc0:=(codeV_zero.1 hc).2.2;have g:Good t:=check_iff.1 hc0;have e0:cutCode t n=0:=by
  unfold cutCode;rw[if_neg (by rw[hc0];simp),if_pos ⟨by omega,by omega⟩]
 have e1:cutR t n=keepT t (fun j=> !underF t j n) t.length:=(by unfold cutR;rw[if_pos e0];rfl);have c:Clo t (fun j=> !underF t j n):=⟨by simp[under_root g (show(1:Int)≤n by omega)],fun j h1 hj hu=>by
  simp only[Bool.not_eq_true']at hu⊢;exact under_par g hj h1 hu⟩
 have hq:∀j,Rch root L t j→(!underF t j n)=true:=fun j hj=>by
  cases hu:underF t j n with
  | false=>rfl
  | true=>
   exfalso;simp only[underF,List.any_eq_true,decide_eq_true_eq]at hu;obtain⟨x,hx,he⟩:=hu;have:x=n:=(by omega);subst this;exact hr (rch_up g _ (Nat.lt_succ_self _) hj hx)
 have hk:=prune_code (root:=root) (L:=L) hc c;refine⟨e0,by rw[e1];exact hk,?_⟩;rw[e1];unfold pruneT;rw[if_pos hk,if_pos hc];exact keep_same g c hq
theorem mem_reach {root:Man} {L:List Man} {t:List Pl} (h:codeV root L t=0) {n:Nat} (hn:n<t.length):(n:Int)∈reachL root L t↔rchB root L t n=true:=by
 have:=qL_ints (q:=rchB root L t) hn;unfold reachL;rw[if_pos h,←this];simp[qL]
theorem reach_len {root:Man} {L:List Man} {t:List Pl} (h:codeV root L t=0):(reachL root L t).length=(pruneT root L t).length:=by
 unfold reachL pruneT;rw[if_pos h,if_pos h];simp[keepT]
theorem prune_again {root:Man} {L:List Man} {t:List Pl} (h:codeV root L t=0):codeV root L (pruneT root L t)=0∧pruneT root L (pruneT root L t)=pruneT root L t∧(reachL root L (pruneT root L t)).length=(pruneT root L t).length∧checkN (pruneT root L t)=0∧(validN root L t=true→validN root L (pruneT root L t)=true):=by
 have g:Good t:=check_iff.1 (codeV_zero.1 h).2.2;have c:=rch_clo (root:=root) (L:=L) g;have h1:pruneT root L t=keepT t (rchB root L t) t.length:=(by unfold pruneT;rw[if_pos h]);have h2:codeV root L (pruneT root L t)=0:=(by rw[h1];exact prune_code h c);have h3:pruneT root L (pruneT root L t)=pruneT root L t:=by
  have:pruneT root L (pruneT root L t)=keepT (pruneT root L t) (rchB root L (pruneT root L t)) (pruneT root L t).length:=by
   rw[show pruneT root L (pruneT root L t)=if codeV root L (pruneT root L t)=0 then keepT (pruneT root L t) (rchB root L (pruneT root L t)) (pruneT root L t).length else[] from rfl,if_pos h2]
  rw[this,h1];exact prune_twice g
 refine⟨h2,h3,by rw[reach_len h2,h3],(codeV_zero.1 h2).2.2,fun hv=> ?_⟩;rw[h1];exact prune_valid hv
theorem prune_lens {root:Man} {L:List Man} {t:List Pl} (h:codeV root L t=0):1≤(pruneT root L t).length∧(pruneT root L t).length≤t.length:=by
 have g:Good t:=check_iff.1 (codeV_zero.1 h).2.2;have c:=rch_clo (root:=root) (L:=L) g;unfold pruneT;rw[if_pos h];refine⟨?_,by rw[keep_len];exact rq_le⟩;have:=rq_in g c g.pos c.zero;omega
theorem prune_bare {root:Man} {L:List Man} {t:List Pl} (h:codeV root L t=0):codeV {root with deps:=[]} L t=0∧pruneT {root with deps:=[]} L t=[rootP]:=by
 obtain⟨h1,h2,h3⟩:=codeV_zero.1 h;have hb:codeV {root with deps:=[]} L t=0:=codeV_zero.2 ⟨bare_check h1,h2,h3⟩;refine⟨hb,?_⟩;unfold pruneT;rw[if_pos hb];exact bare_prune (check_iff.1 h3)
theorem rch_eq {root:Man} {L:List Man} {t:List Pl} (g:Good t) (q:Nat→Bool) (h0:q 0=true) (hs:∀k,q k=true→Rch root L t k) (hp:∀n,q n=true→0≤parN t n→q (parN t n).toNat=true) (he:∀n d,q n=true→d∈edgesV root L t n→∀k:Nat,toN t n d=k→q k=true) (j:Nat):rchB root L t j=q j:=by
 rw[Bool.eq_iff_iff,rchB_iff];refine⟨fun h=> ?_,hs j⟩;induction h with
 | zero=>exact h0
 | par h h1 ih=>exact hp _ ih h1
 | edge h hd hk ih=>exact he _ _ ih hd _ hk
theorem lead_same {root:Man} {L:List Man} {t:List Pl} (h:codeV root L t=0) {n:Nat} (hn:n<t.length):findF (pruneT root L t) (pathOf t n)=(if rchB root L t n=true then some (rkQ (rchB root L t) n:Int)else none)∧
  (rchB root L t n=true→rkQ (rchB root L t) n<(pruneT root L t).length∧(nth (pruneT root L t) (rkQ (rchB root L t) n)).ver=(nth t n).ver∧∀d∈edgesV root L t n,((toN t n d<0)↔toN (pruneT root L t) (rkQ (rchB root L t) n:Nat) d<0)∧pathOf t (toN t n d)=pathOf (pruneT root L t) (toN (pruneT root L t) (rkQ (rchB root L t) n:Nat) d)):=by
 have g:Good t:=check_iff.1 (codeV_zero.1 h).2.2;have c:=rch_clo (root:=root) (L:=L) g;have gu:=good_keep g c;have h1:pruneT root L t=keepT t (rchB root L t) t.length:=(by unfold pruneT;rw[if_pos h]);rw[h1];refine⟨(find_else g gu hn).trans (find_keep g c hn),fun hu=>⟨rq_in g c hn hu,by rw[keep_get hn hu];rfl,fun d hd=> ?_⟩⟩;have ht:=to_keep g c hn hu (rch_to g hu hd);rw[ht];by_cases h0:toN t n d<0
 ·have e:renQ (rchB root L t) (toN t n d)=toN t n d:=(by unfold renQ;rw[if_pos h0]);rw[e];refine⟨Iff.rfl,?_⟩;have a:∀u:List Pl,pathOf u (toN t n d)=⟨#[]⟩:=fun u=>by
   unfold pathOf;rw[if_neg];intro hh;have:=(holds_iff.1 hh).2.1;omega
  rw[a,a]
 ·have hlt:=toN_lt t n d;have e:renQ (rchB root L t) (toN t n d)=(rkQ (rchB root L t) (toN t n d).toNat:Nat):=renq_nn (by omega);have hz:toN t n d=((toN t n d).toNat:Nat):=(by omega);have hk:=rch_to g hu hd _ hz;have hkl:(toN t n d).toNat<t.length:=(by omega);rw[e];refine⟨by omega,?_⟩;generalize (toN t n d).toNat=k at*;rw[hz,pathOf_eq g hkl,pathOf_eq gu (rq_in g c hkl hk),path_keep g c _ (Nat.lt_succ_self _) hkl hk]
set_option maxRecDepth 100000
set_option maxHeartbeats 4000000
def entB (S:List Int):List (Value×AV):=S.map fun k=>(.int .i64 k,bV true)
theorem findB (k:Int):∀(S:List Int) (i:Nat),∃r,findI Tryz.prog 3 (.int .i64) (.int .i64 k) (entB S) i=some r∧(k∈S→∃j,r=some (i+j)∧S[j]? =some k)∧(k∉S→r=none)
 | [],i=>⟨none,rfl,fun h=>by simp at h,fun _=>rfl⟩
 | a::S,i=>by
  have hs:sameK Tryz.prog 3 (.int .i64) (.int .i64 k) (.int .i64 a)=some (decide (a=k)):=by
   simp[sameK,Instr.sameNow];rw[Bool.eq_iff_iff,beq_iff_eq,decide_eq_true_eq];exact⟨fun h=>h.symm,fun h=>h.symm⟩
  simp only[entB,List.map_cons,findI,hs];by_cases h:a=k
  ·exact⟨some i,by simp[h],fun _=>⟨0,rfl,by simp[h]⟩,fun hn=>absurd (by simp[h]) hn⟩
  ·obtain⟨r,h1,h2,h3⟩:=findB k S (i+1);refine⟨r,by simpa [h,entB]using h1,fun hm=> ?_,fun hm=>h3 (fun hp=>hm (by simp[hp]))⟩;rcases List.mem_cons.1 hm with e | hp
   ·exact absurd e.symm h
   obtain⟨j,hj,hl⟩:=h2 hp;exact⟨j+1,by rw[hj];congr 1;omega,by simpa using hl⟩
theorem lookupB {G:Hp} {id:Nat} {S:List Int} (hG:G id=some (.map (entB S))) (k:Int):evLookup Tryz.prog G 129 (.mp id) (iV k) false=some (bV (decide (k∈S))):=by
 obtain⟨r,h1,h2,h3⟩:=findB k S 0;have hc:conc (iV k)=some (.int .i64 k):=rfl;have hk:keyOK Tryz.prog (.int .i64) (.int .i64 k)=true:=rfl;simp only[evLookup,mp129,hc,hG,zv4,hk,if_true,h1];by_cases hm:k∈S
 ·obtain⟨j,rfl,hl⟩:=h2 hm;have:(entB S)[j]? =some (.int .i64 k,bV true):=(by simp[entB,hl]);simp[this,hm]
 ·rw[h3 hm];simp[hm]
def putB (S:List Int) (k:Int):List Int:=if k∈S then S else S++[k]
theorem updateB {G:Hp} {id:Nat} {S:List Int} (hG:G id=some (.map (entB S))) (k:Int):evMapUpdate Tryz.prog G 129 (.mp id) (iV k) (bV true)=some (G.upd id (.map (entB (putB S k)))):=by
 obtain⟨r,h1,h2,h3⟩:=findB k S 0;have hc:conc (iV k)=some (.int .i64 k):=rfl;have hk:keyOK Tryz.prog (.int .i64) (.int .i64 k)=true:=rfl;have ha:keyA (.int .i64 k)=true:=rfl;simp only[evMapUpdate,mp129,hc,hG,hk,if_true,h1];by_cases hm:k∈S
 ·obtain⟨j,rfl,hl⟩:=h2 hm;have e:(entB S).set j (.int .i64 k,bV true)=entB S:=by
   have hj:=(List.getElem?_eq_some_iff.1 hl);obtain⟨hj,hv⟩:=hj;refine List.ext_getElem (by simp) fun i a b=> ?_;rw[List.getElem_set];split
   ·rename_i e;subst e;simp[entB,hv]
   ·rfl
  simp only[Nat.zero_add,ha,if_true,e,putB,if_pos hm]
 ·rw[h3 hm];simp only[putB,if_neg hm];simp[entB]
theorem mem_puts {x:Int} :∀(l S:List Int),x∈l.foldl putB S↔x∈S∨x∈l
 | [],S=>by simp
 | a::l,S=>by
  rw[List.foldl_cons,mem_puts l];unfold putB;split
  ·rename_i h;simp only[List.mem_cons];constructor
   ·rintro(h1 | h1)
    ·exact .inl h1
    ·exact .inr (.inr h1)
   ·rintro(h1 | rfl | h1)
    ·exact .inl h1
    ·exact .inl h
    ·exact .inr h1
  ·simp only[List.mem_append,List.mem_cons,List.not_mem_nil,or_false,or_assoc]
theorem puts_step {l S:List Int} {i:Nat} (hi:i<l.length):(l.take (i+1)).foldl putB S=putB ((l.take i).foldl putB S) (nth l i):=by
 rw[List.take_add_one,List.getElem?_eq_getElem hi,←nth_eq hi];simp
def keepM (q:Nat→Bool) (k:Nat):List (Int×Int):=(-1,-1)::(keptQ q k).map fun(j:Nat)=>((j:Int),renQ q j)
theorem keepM_val {q:Nat→Bool} {k:Nat} :∀p∈keepM q k,p.2=renQ q p.1:=by
 intro p hp;rcases List.mem_cons.1 hp with rfl | hp
 ·simp[renQ]
 ·obtain⟨j,_,rfl⟩:=List.mem_map.1 hp;rfl
theorem keepM_new {q:Nat→Bool} {k:Nat} :∀p∈keepM q k,p.1≠(k:Int):=by
 intro p hp;rcases List.mem_cons.1 hp with rfl | hp
 ·show(-1:Int)≠k;omega
 ·obtain⟨j,hj,rfl⟩:=List.mem_map.1 hp;have:=List.mem_range.1 (List.mem_filter.1 hj).1;simp;omega
theorem keepM_par {t:List Pl} {q:Nat→Bool} (g:Good t) (c:Clo t q) {k:Nat} (hk:k<t.length) (hu:q k=true):getI (keepM q (k+1)) (parN t k)=renQ q (parN t k):=by
 refine getI_eq keepM_val ?_;rcases Nat.eq_zero_or_pos k with rfl | h1
 ·exact⟨(-1,-1),List.mem_cons_self ..,(root_par g.root).symm⟩
 ·have hp:=g.par k h1 hk;refine⟨(parN t k,renQ q (parN t k)),List.mem_cons_of_mem _ (List.mem_map.2 ⟨(parN t k).toNat,List.mem_filter.2 ⟨List.mem_range.2 (by omega),c.par k h1 hk hu⟩,?_⟩),rfl⟩;rw[Int.toNat_of_nonneg (by omega)]
theorem keep56_ok (t:List Pl) (ht:OKs t) (l:List Int) (hl:l.length≤1000000000):CallsOK Tryz.prog 56 [rowT Pl.cells t,rowT iC l] (.tup [.row 0 (keepR t l).length,iV (keepCode t l)]) [(58,flat Pl.cells (keepR t l))]:=by
 have htl:=ht.1;refine callsOK mixed Tryz.call56 Tryz.func56 rfl (by rw[Tryz.ntmps56];simp) ?_ rfl;rw[Tryz.ntmps56];(repeat with_reducible refine aA ?_);(first | with_reducible refine aR fun K' hK=> ?_ | with_reducible refine aS fun K' hK=> ?_);simp;(first | refine hK _ _ _ ?_ | done);clear K' hK;(repeat with_reducible refine aA ?_);(first | with_reducible refine aR fun K' hK=> ?_ | with_reducible refine aS fun K' hK=> ?_);simp;refine acall_flat (check18_ok t ht) rfl (by simp) ?_;simp;(first | refine hK _ _ _ ?_ | done);clear K' hK;by_cases c0:checkN t=0
 ·have g:Good t:=check_iff.1 c0;(repeat with_reducible refine aA ?_);(first | with_reducible refine aR fun K' hK=> ?_ | with_reducible refine aS fun K' hK=> ?_);simp[c0];(first | refine hK _ _ _ ?_ | done);clear K' hK;repeat with_reducible refine aA ?_
  (first | with_reducible refine aC fun A B hA hB=> ?_ | with_reducible refine aD fun A B hA hB=> ?_)
  simp[c0];refine⟨fun hc=>hA ?_,fun hc=>hB ?_⟩<;>clear hA hB A B<;>(try (simp at hc;done))<;>(try (exfalso;simp at hc;omega))<;>clear hc<;>(try with_reducible refine aK ?_);have up0:=updateB (G:=(Hp.upd (fun _=>none) 0 (.row 58 [])).upd 1 (.map [])) (id:=1) (S:=[]) rfl (-1);(repeat with_reducible refine aA ?_);(first | with_reducible refine aR fun K' hK=> ?_ | with_reducible refine aS fun K' hK=> ?_);simp[up0];(first | refine hK _ _ _ ?_ | done);clear K' hK;(repeat with_reducible refine aA ?_);(first | with_reducible refine aR fun K' hK=> ?_ | with_reducible refine aS fun K' hK=> ?_);simp;(first | refine hK _ _ _ ?_ | done);clear K' hK;(repeat with_reducible refine aA ?_);(first | with_reducible refine aw_block ?_ | with_reducible refine aw_toS (aw_block ?_));refine aw_loop (fun s G nx=>s 0=rowT Pl.cells t∧s 1=rowT iC l∧s 7=.mp 1∧s 23=rowT iC l∧s 24=iV l.length∧2≤nx∧∃i:Nat,s 25=iV i∧i≤l.length∧G 1=some (.map (entB ((l.take i).foldl putB [-1])))) (fun s _ _=>match s 25 with | .v (.int _ n)=>l.length-n.toNat | _=>0) ?_ ?_
  ·exact⟨by simp,by simp,by simp,by simp,by simp,by omega,0,by simp,by omega,by simp[putB]⟩
  ·rintro s G nx-⟨s0,s1,s7,s23,s24,hnx,i,s25,hi,g1⟩;have hw:IntKind.i64.wrap (↑i+1)=((i+1:Nat):Int):=wrapS (by omega);(repeat with_reducible refine aA ?_);(first | with_reducible refine aR fun K' hK=> ?_ | with_reducible refine aS fun K' hK=> ?_);simp[s24,s25];(first | refine hK _ _ _ ?_ | done);clear K' hK;(repeat with_reducible refine aA ?_);(first | with_reducible refine aC fun A B hA hB=> ?_ | with_reducible refine aD fun A B hA hB=> ?_);simp;refine⟨fun hi2=>hA ?_,fun hi2=>hB ?_⟩<;>clear hA hB A B<;>(try simp at hi2)<;>(try with_reducible refine aK ?_)
   ·have up:=updateB g1 (nth l i);have hst:=puts_step (S:=[-1]) hi2;(repeat with_reducible refine aA ?_);(first | with_reducible refine aw_block ?_ | with_reducible refine aw_toS (aw_block ?_));(repeat with_reducible refine aA ?_);(first | with_reducible refine aR fun K' hK=> ?_ | with_reducible refine aS fun K' hK=> ?_);simp[s23,s25,hi2];(first | refine hK _ _ _ ?_ | done);clear K' hK;(repeat with_reducible refine aA ?_);(first | with_reducible refine aR fun K' hK=> ?_ | with_reducible refine aS fun K' hK=> ?_);simp[s7,up];(first | refine hK _ _ _ ?_ | done);clear K' hK;(first | with_reducible refine aw_skipL ?_ | skip);refine blockK_normal ?_;(repeat with_reducible refine aA ?_);(first | with_reducible refine aR fun K' hK=> ?_ | with_reducible refine aS fun K' hK=> ?_);simp[s25,hw];(first | refine hK _ _ _ ?_ | done);clear K' hK;refine aw_skipL (loopK_normal ?_ ?_)
    ·exact⟨by simp[s0],by simp[s1],by simp[s7],by simp[s23],by simp[s24],by omega,i+1,by simp[hw],by omega,by simp[hst]⟩
    ·simp[s25,hw];omega
   ·(repeat with_reducible refine aA ?_);(first | with_reducible refine aw_exit ?_ | with_reducible refine aw_exitL ?_);refine loopK_exit (blockK_exit ?_);have hie:i=l.length:=(by omega);subst hie;rw[List.take_length]at g1;have hS:∀x,x∈l.foldl putB [-1]↔x= -1∨x∈l:=fun x=>(by rw[mem_puts];simp);generalize l.foldl putB [-1]=S at*;clear s23 s24 s25 hw hi;(repeat with_reducible refine aA ?_);(first | with_reducible refine aR fun K' hK=> ?_ | with_reducible refine aS fun K' hK=> ?_);simp[s1];(first | refine hK _ _ _ ?_ | done);clear K' hK;(repeat with_reducible refine aA ?_);(first | with_reducible refine aw_block ?_ | with_reducible refine aw_toS (aw_block ?_));refine aw_loop (fun s G nx=>s 0=rowT Pl.cells t∧s 7=.mp 1∧s 32=rowT iC l∧s 33=iV l.length∧2≤nx∧G 1=some (.map (entB S))∧∃i:Nat,s 34=iV i∧i≤l.length∧(l.take i).all (keepAt t l)=true) (fun s _ _=>match s 34 with | .v (.int _ n)=>l.length-n.toNat | _=>0) ?_ ?_
    ·exact⟨by simp[s0],by simp[s7],by simp[s1],by simp,by omega,g1,0,by simp,by omega,by simp⟩
    ·clear g1 s0 s1 s7 hnx s G nx;rintro s G nx-⟨s0,s7,s32,s33,hnx,g1,i,s34,hi,hall⟩;have hw:IntKind.i64.wrap (↑i+1)=((i+1:Nat):Int):=wrapS (by omega);(repeat with_reducible refine aA ?_);(first | with_reducible refine aR fun K' hK=> ?_ | with_reducible refine aS fun K' hK=> ?_);simp[s33,s34];(first | refine hK _ _ _ ?_ | done);clear K' hK;(repeat with_reducible refine aA ?_);(first | with_reducible refine aC fun A B hA hB=> ?_ | with_reducible refine aD fun A B hA hB=> ?_);simp;refine⟨fun hi2=>hA ?_,fun hi2=>hB ?_⟩<;>clear hA hB A B<;>(try simp at hi2)<;>(try with_reducible refine aK ?_)
     ·have hst:=all_take1 (p:=keepAt t l) hi2;rw[hall,Bool.true_and]at hst;have bad:keepAt t l (nth l i)=false→keepCode t l=151∧keepR t l=[]:=fun hb=>by
       have h1:keepOk t l=false:=by
        unfold keepOk;rw[all_false hi2 hb];rfl
       have h2:keepCode t l=151:=(by unfold keepCode;rw[if_neg (by simp[c0]),if_neg (by simp[h1])]);exact⟨h2,by unfold keepR;rw[h2];rfl⟩
      (repeat with_reducible refine aA ?_);(first | with_reducible refine aw_block ?_ | with_reducible refine aw_toS (aw_block ?_));(repeat with_reducible refine aA ?_);(first | with_reducible refine aR fun K' hK=> ?_ | with_reducible refine aS fun K' hK=> ?_);simp[s32,s34,hi2];(first | refine hK _ _ _ ?_ | done);clear K' hK;generalize nth l i=x at*;by_cases x0:x<0
      ·(repeat with_reducible refine aA ?_);(first | with_reducible refine aR fun K' hK=> ?_ | with_reducible refine aS fun K' hK=> ?_);simp[x0];(first | refine hK _ _ _ ?_ | done);clear K' hK;repeat with_reducible refine aA ?_
       (first | with_reducible refine aC fun A B hA hB=> ?_ | with_reducible refine aD fun A B hA hB=> ?_)
       simp;refine⟨fun hc=>hA ?_,fun hc=>hB ?_⟩<;>clear hA hB A B<;>(try (simp at hc;done))<;>(try (exfalso;simp at hc;omega))<;>clear hc<;>(try with_reducible refine aK ?_);(repeat with_reducible refine aA ?_);(first | with_reducible refine aR fun K' hK=> ?_ | with_reducible refine aS fun K' hK=> ?_);simp;(first | refine hK _ _ _ ?_ | done);clear K' hK;(repeat with_reducible refine aA ?_);(first | with_reducible refine aw_ret ?_ | with_reducible refine aw_retL ?_ | with_reducible refine aw_skipL ?_);simp[blockK,loopK,Post,resA,res1,expT,expA,exp1,expM,expL,okT,okA,ok1,rowOf,Tryz.f56];obtain⟨e1,e2⟩:=bad (by simp[keepAt];omega);rw[e1,e2];exact⟨[nx],⟨⟨rfl,rfl⟩,rfl⟩,by simp[rowOf]⟩
      ·by_cases x1:(t.length:Int)≤x
       ·(repeat with_reducible refine aA ?_);(first | with_reducible refine aR fun K' hK=> ?_ | with_reducible refine aS fun K' hK=> ?_);simp[s0,x0,x1];(first | refine hK _ _ _ ?_ | done);clear K' hK;repeat with_reducible refine aA ?_
        (first | with_reducible refine aC fun A B hA hB=> ?_ | with_reducible refine aD fun A B hA hB=> ?_)
        simp;refine⟨fun hc=>hA ?_,fun hc=>hB ?_⟩<;>clear hA hB A B<;>(try (simp at hc;done))<;>(try (exfalso;simp at hc;omega))<;>clear hc<;>(try with_reducible refine aK ?_);(repeat with_reducible refine aA ?_);(first | with_reducible refine aR fun K' hK=> ?_ | with_reducible refine aS fun K' hK=> ?_);simp;(first | refine hK _ _ _ ?_ | done);clear K' hK;(repeat with_reducible refine aA ?_);(first | with_reducible refine aw_ret ?_ | with_reducible refine aw_retL ?_ | with_reducible refine aw_skipL ?_);simp[blockK,loopK,Post,resA,res1,expT,expA,exp1,expM,expL,okT,okA,ok1,rowOf,Tryz.f56];obtain⟨e1,e2⟩:=bad (by simp[keepAt];omega);rw[e1,e2];exact⟨[nx],⟨⟨rfl,rfl⟩,rfl⟩,by simp[rowOf]⟩
       ·have x2:x.toNat<t.length:=(by omega);have x3:0≤x:=(by omega);have x4:x<t.length:=(by omega);have lk:=lookupB g1 (parN t x.toNat);have hpe:(nth t x.toNat).par=parN t x.toNat:=rfl;have hkx:keepAt t l x=decide (parN t x.toNat∈S):=by
         simp only[keepAt,hS,x3,x4];simp
        (repeat with_reducible refine aA ?_);(first | with_reducible refine aR fun K' hK=> ?_ | with_reducible refine aS fun K' hK=> ?_);simp[s0,s7,x0,x1,x2,x3,x4,hpe,lk];(first | refine hK _ _ _ ?_ | done);clear K' hK;by_cases xm:parN t x.toNat∈S
        ·repeat with_reducible refine aA ?_
         (first | with_reducible refine aC fun A B hA hB=> ?_ | with_reducible refine aD fun A B hA hB=> ?_)
         simp[xm];refine⟨fun hc=>hA ?_,fun hc=>hB ?_⟩<;>clear hA hB A B<;>(try (simp at hc;done))<;>(try (exfalso;simp at hc;omega))<;>clear hc<;>(try with_reducible refine aK ?_);(first | with_reducible refine aw_skipL ?_ | skip);refine blockK_normal ?_;(repeat with_reducible refine aA ?_);(first | with_reducible refine aR fun K' hK=> ?_ | with_reducible refine aS fun K' hK=> ?_);simp[s34,hw];(first | refine hK _ _ _ ?_ | done);clear K' hK;refine aw_skipL (loopK_normal ?_ ?_)
         ·exact⟨by simp[s0],by simp[s7],by simp[s32],by simp[s33],by omega,g1,i+1,by simp[hw],by omega,by rw[hst,hkx];simp[xm]⟩
         ·simp[s34,hw];omega
        ·repeat with_reducible refine aA ?_
         (first | with_reducible refine aC fun A B hA hB=> ?_ | with_reducible refine aD fun A B hA hB=> ?_)
         simp[xm];refine⟨fun hc=>hA ?_,fun hc=>hB ?_⟩<;>clear hA hB A B<;>(try (simp at hc;done))<;>(try (exfalso;simp at hc;omega))<;>clear hc<;>(try with_reducible refine aK ?_);(repeat with_reducible refine aA ?_);(first | with_reducible refine aR fun K' hK=> ?_ | with_reducible refine aS fun K' hK=> ?_);simp;(first | refine hK _ _ _ ?_ | done);clear K' hK;(repeat with_reducible refine aA ?_);(first | with_reducible refine aw_ret ?_ | with_reducible refine aw_retL ?_ | with_reducible refine aw_skipL ?_);simp[blockK,loopK,Post,resA,res1,expT,expA,exp1,expM,expL,okT,okA,ok1,rowOf,Tryz.f56];obtain⟨e1,e2⟩:=bad (by rw[hkx];simp[xm]);rw[e1,e2];exact⟨[nx],⟨⟨rfl,rfl⟩,rfl⟩,by simp[rowOf]⟩
     ·(repeat with_reducible refine aA ?_);(first | with_reducible refine aw_exit ?_ | with_reducible refine aw_exitL ?_);refine loopK_exit (blockK_exit ?_);have hie:i=l.length:=(by omega);subst hie;rw[List.take_length]at hall;clear s32 s33 s34 hw hi;have lk:=lookupB g1 0;have hk0:keepOk t l=decide ((0:Int)∈S):=by
       simp only[keepOk,hall,hS,Bool.true_and];simp
      by_cases x0:(0:Int)∈S
      ·have hok:keepOk t l=true:=(by rw[hk0];simp[x0]);obtain⟨hrng,c⟩:=(keepOk_iff g).1 hok;have e1:keepCode t l=0:=(by unfold keepCode;rw[if_neg (by simp[c0]),if_pos hok]);have e2:keepR t l=keepT t (qL l) t.length:=(by unfold keepR;rw[if_pos e1]);rw[e1,e2];have hq:∀k:Nat,decide ((k:Int)∈S)=qL l k:=fun k=>by
        unfold qL;rw[Bool.eq_iff_iff,decide_eq_true_eq,decide_eq_true_eq,hS];constructor
        ·rintro(h | h)
         ·omega
         ·exact h
        ·exact .inr
       generalize qL l=q at*;(repeat with_reducible refine aA ?_);(first | with_reducible refine aR fun K' hK=> ?_ | with_reducible refine aS fun K' hK=> ?_);simp[s7,lk,x0];(first | refine hK _ _ _ ?_ | done);clear K' hK;repeat with_reducible refine aA ?_
       (first | with_reducible refine aC fun A B hA hB=> ?_ | with_reducible refine aD fun A B hA hB=> ?_)
       simp;refine⟨fun hc=>hA ?_,fun hc=>hB ?_⟩<;>clear hA hB A B<;>(try (simp at hc;done))<;>(try (exfalso;simp at hc;omega))<;>clear hc<;>(try with_reducible refine aK ?_);have up1:=updateI (G:=(G.upd nx (.map []))) (id:=nx) (M:=[]) (by simp[entI]) (k:= -1) (by simp) (-1);(repeat with_reducible refine aA ?_);(first | with_reducible refine aR fun K' hK=> ?_ | with_reducible refine aS fun K' hK=> ?_);simp[up1];(first | refine hK _ _ _ ?_ | done);clear K' hK;(repeat with_reducible refine aA ?_);(first | with_reducible refine aR fun K' hK=> ?_ | with_reducible refine aS fun K' hK=> ?_);simp;(first | refine hK _ _ _ ?_ | done);clear K' hK;(repeat with_reducible refine aA ?_);(first | with_reducible refine aR fun K' hK=> ?_ | with_reducible refine aS fun K' hK=> ?_);simp[s0];(first | refine hK _ _ _ ?_ | done);clear K' hK;have nB:¬(1:Nat)=nx:=(by omega);have nB1:¬(1:Nat)=nx+1:=(by omega);have nB2:¬nx=nx+1:=(by omega);refine aw_gen (fun u H ny=>u 7=.mp 1∧u 12=.mp nx∧u 62=rowT Pl.cells t∧u 63=iV t.length∧u 64=iV 0∧u 13=.row (nx+1) 0∧ny=nx+2∧H 1=some (.map (entB S))∧H nx=some (.map (entI (keepM q 0)))∧H (nx+1)=some (.row 58 [])) ?_ ?_
       ·exact⟨by simp[s7],by simp,by simp[s0],by simp,by simp,by simp,by omega,by simp[nB,show¬nx=0 by omega,g1],by simp[nB2,keepM,keptQ],by simp⟩
       clear s0 s7 g1 lk up1 nB nB1 nB2;rintro u H ny ⟨u7,u12,u62,u63,u64,u13,rfl,h1,hB,hr⟩;generalize hBe:nx=B at*;clear hBe;(repeat with_reducible refine aA ?_);(first | with_reducible refine aw_block ?_ | with_reducible refine aw_toS (aw_block ?_));refine aw_loop (fun s G nx=>s 7=.mp 1∧s 12=.mp B∧s 62=rowT Pl.cells t∧s 63=iV t.length∧G 1=some (.map (entB S))∧∃k r:Nat,s 64=iV k∧k≤t.length∧G B=some (.map (entI (keepM q k)))∧s 13=.row r (keepT t q k).length∧G r=some (.row 58 (flat Pl.cells (keepT t q k)))∧¬r=B∧¬r=1∧r<nx∧B<nx) (fun s _ _=>match s 64 with | .v (.int _ n)=>t.length-n.toNat | _=>0) ?_ ?_
       ·exact⟨u7,u12,u62,u63,h1,0,B+1,by simp[u64],by omega,hB,by simp[u13,keepT,keptQ],by simp[hr,keepT,keptQ],by omega,by omega,by omega,by omega⟩
       clear u7 u12 u62 u63 u64 u13 h1 hB hr u H;rintro s G nx-⟨s7,s12,s62,s63,g1,k,r,s64,hk,gB,s13,gr,hrB,hr1,hrn,hBn⟩;have hw:IntKind.i64.wrap (↑k+1)=((k+1:Nat):Int):=wrapS (by omega);(repeat with_reducible refine aA ?_);(first | with_reducible refine aR fun K' hK=> ?_ | with_reducible refine aS fun K' hK=> ?_);simp[s63,s64];(first | refine hK _ _ _ ?_ | done);clear K' hK;(repeat with_reducible refine aA ?_);(first | with_reducible refine aC fun A B hA hB=> ?_ | with_reducible refine aD fun A B hA hB=> ?_);simp;refine⟨fun hi2=>hA ?_,fun hi2=>hB ?_⟩<;>clear hA hB A B<;>(try simp at hi2)<;>(try with_reducible refine aK ?_)
       ·(repeat with_reducible refine aA ?_);(first | with_reducible refine aw_block ?_ | with_reducible refine aw_toS (aw_block ?_));have n1:¬1=nx:=(by omega);have nB:¬B=nx:=(by omega);have nr:¬r=nx:=(by omega);(repeat with_reducible refine aA ?_);(first | with_reducible refine aR fun K' hK=> ?_ | with_reducible refine aS fun K' hK=> ?_);simp[s62,s64,hi2];(first | refine hK _ _ _ ?_ | done);clear K' hK;have lk:∀X:Hp,X 1=some (.map (entB S))→evLookup Tryz.prog X 129 (.mp 1) (iV k) false=some (bV (q k)):=fun X hX=>(by rw[lookupB hX,hq]);(repeat with_reducible refine aA ?_);(first | with_reducible refine aR fun K' hK=> ?_ | with_reducible refine aS fun K' hK=> ?_);simp[s7,lk,n1,g1];(first | refine hK _ _ _ ?_ | done);clear K' hK;have hk1:=kq_succ (q:=q) (k:=k);cases hqk:q k with
        | false=>
         rw[hqk]at hk1;have hk1:keptQ q (k+1)=keptQ q k:=(by rw[hk1];simp);repeat with_reducible refine aA ?_
         (first | with_reducible refine aC fun A B hA hB=> ?_ | with_reducible refine aD fun A B hA hB=> ?_)
         simp;refine⟨fun hc=>hA ?_,fun hc=>hB ?_⟩<;>clear hA hB A B<;>(try (simp at hc;done))<;>(try (exfalso;simp at hc;omega))<;>clear hc<;>(try with_reducible refine aK ?_);(first | with_reducible refine aw_skipL ?_ | skip);refine blockK_normal ?_;(repeat with_reducible refine aA ?_);(first | with_reducible refine aR fun K' hK=> ?_ | with_reducible refine aS fun K' hK=> ?_);simp[s64,hw];(first | refine hK _ _ _ ?_ | done);clear K' hK;refine aw_skipL (loopK_normal ?_ ?_)
         ·have e2:keepT t q (k+1)=keepT t q k:=(by rw[keepT,hk1];rfl);have e3:keepM q (k+1)=keepM q k:=(by rw[keepM,hk1];rfl);exact⟨by simp[s7],by simp[s12],by simp[s62],by simp[s63],by simp[n1,g1],k+1,r,by simp[hw],by omega,by rw[e3];simp[nB,gB],by rw[e2];simp[s13],by rw[e2];simp[nr,gr],hrB,hr1,by omega,by omega⟩
         ·simp[s64,hw];omega
        | true=>
         rw[hqk]at hk1;have hk1:keptQ q (k+1)=keptQ q k++[k]:=(by rw[hk1];simp);have hL:(keepT t q k).length=rkQ q k:=keep_len;have hle:rkQ q k≤k:=rq_le;have hren:renQ q k=(keepT t q k).length:=(by rw[renq_nn (by omega),Int.toNat_natCast,hL]);have hM1:keepM q k++[((k:Int),((keepT t q k).length:Int))]=keepM q (k+1):=by
          rw[keepM,keepM,hk1,List.map_append,←hren];rfl
         have hcell:iV (renQ q (parN t k))::(nth t k).cells.tail=(keepP t q k).cells:=rfl;have hpp:(nth t k).par=parN t k:=rfl;have hT:keepT t q (k+1)=keepT t q k++[keepP t q k]:=(by rw[keepT,keepT,hk1,List.map_append];rfl);generalize hp:nth t k=p at*;have up:∀X:Hp,X B=some (.map (entI (keepM q k)))→evMapUpdate Tryz.prog X 130 (.mp B) (iV k) (iV (keepT t q k).length)=some (X.upd B (.map (entI (keepM q (k+1))))):=fun X hX=>(by rw[updateI hX keepM_new,hM1]);have nx2:¬nx=B:=(by omega);have nr1:¬r=nx+1:=(by omega);have nxr:¬nx=r:=(by omega);have nr2:¬B=r:=fun h=>hrB h.symm;have n11:¬1=nx+1:=(by omega);have n12:¬1=nx+1+1:=(by omega);have n13:¬1=r:=fun h=>hr1 h.symm;have n14:¬1=B:=(by omega);have nB1:¬B=nx+1:=(by omega);have nB3:¬B=nx+1+1:=(by omega);repeat with_reducible refine aA ?_
         (first | with_reducible refine aC fun A B hA hB=> ?_ | with_reducible refine aD fun A B hA hB=> ?_)
         simp;refine⟨fun hc=>hA ?_,fun hc=>hB ?_⟩<;>clear hA hB A B<;>(try (simp at hc;done))<;>(try (exfalso;simp at hc;omega))<;>clear hc<;>(try with_reducible refine aK ?_);(repeat with_reducible refine aA ?_);(first | with_reducible refine aR fun K' hK=> ?_ | with_reducible refine aS fun K' hK=> ?_);simp[s12,s13,gr,nr,nB,gB,up];(first | refine hK _ _ _ ?_ | done);clear K' hK;have lk2:∀X:Hp,X B=some (.map (entI (keepM q (k+1))))→evLookup Tryz.prog X 130 (.mp B) (iV (parN t k)) false=some (iV (renQ q (parN t k))):=fun X hX=>(by rw[lookupI hX,keepM_par g c hi2 hqk]);(repeat with_reducible refine aA ?_);(first | with_reducible refine aR fun K' hK=> ?_ | with_reducible refine aS fun K' hK=> ?_);simp[s12,nx2,hpp,lk2,hcell];(first | refine hK _ _ _ ?_ | done);clear K' hK;have b1:(keepT t q k).length+1≤9223372036854775807:=(by omega);have b2:((keepT t q k).length+1)*64≤140737488355328:=(by omega);(repeat with_reducible refine aA ?_);(first | with_reducible refine aR fun K' hK=> ?_ | with_reducible refine aS fun K' hK=> ?_);simp[s13,nx2,nB,gr,nr,nxr,nr1,hrB,nr2,b1,b2,treeOf_row,srcOf_row];(first | refine hK _ _ _ ?_ | done);clear K' hK;(first | with_reducible refine aw_skipL ?_ | skip);refine blockK_normal ?_;(repeat with_reducible refine aA ?_);(first | with_reducible refine aR fun K' hK=> ?_ | with_reducible refine aS fun K' hK=> ?_);simp[s64,hw];(first | refine hK _ _ _ ?_ | done);clear K' hK;refine aw_skipL (loopK_normal ?_ ?_)
         ·exact⟨by simp[s7],by simp[s12],by simp[s62],by simp[s63],by simp[n1,n11,n12,n13,n14,g1,show¬nx=0 by omega],k+1,nx+1+1,by simp[hw],by omega,by simp[nB,nB1,nB3,nr2],by rw[hT];simp,by rw[hT,Hp.upd_self,←flat_snoc],by omega,by omega,by omega,by omega⟩
         ·simp[s64,hw];omega
       ·(repeat with_reducible refine aA ?_);(first | with_reducible refine aw_exit ?_ | with_reducible refine aw_exitL ?_);refine loopK_exit (blockK_exit ?_);have:k=t.length:=(by omega);subst this;(repeat with_reducible refine aA ?_);(first | with_reducible refine aR fun K' hK=> ?_ | with_reducible refine aS fun K' hK=> ?_);simp[s13];(first | refine hK _ _ _ ?_ | done);clear K' hK;(repeat with_reducible refine aA ?_);(first | with_reducible refine aw_ret ?_ | with_reducible refine aw_retL ?_ | with_reducible refine aw_skipL ?_);simp[blockK,loopK,Post,resA,res1,expT,expA,exp1,expM,expL,okT,okA,ok1,rowOf,Tryz.f56,gr]
      ·have e1:keepCode t l=151:=(by unfold keepCode;rw[if_neg (by simp[c0]),if_neg (by simp[hk0,x0])]);have e2:keepR t l=[]:=(by unfold keepR;rw[e1];rfl);rw[e1,e2];(repeat with_reducible refine aA ?_);(first | with_reducible refine aR fun K' hK=> ?_ | with_reducible refine aS fun K' hK=> ?_);simp[s7,lk,x0];(first | refine hK _ _ _ ?_ | done);clear K' hK;repeat with_reducible refine aA ?_
       (first | with_reducible refine aC fun A B hA hB=> ?_ | with_reducible refine aD fun A B hA hB=> ?_)
       simp;refine⟨fun hc=>hA ?_,fun hc=>hB ?_⟩<;>clear hA hB A B<;>(try (simp at hc;done))<;>(try (exfalso;simp at hc;omega))<;>clear hc<;>(try with_reducible refine aK ?_);(repeat with_reducible refine aA ?_);(first | with_reducible refine aR fun K' hK=> ?_ | with_reducible refine aS fun K' hK=> ?_);simp;(first | refine hK _ _ _ ?_ | done);clear K' hK;(repeat with_reducible refine aA ?_);(first | with_reducible refine aw_ret ?_ | with_reducible refine aw_retL ?_ | with_reducible refine aw_skipL ?_);simp[blockK,loopK,Post,resA,res1,expT,expA,exp1,expM,expL,okT,okA,ok1,rowOf,Tryz.f56]
 ·(repeat with_reducible refine aA ?_);(first | with_reducible refine aR fun K' hK=> ?_ | with_reducible refine aS fun K' hK=> ?_);simp[c0];(first | refine hK _ _ _ ?_ | done);clear K' hK;repeat with_reducible refine aA ?_
  (first | with_reducible refine aC fun A B hA hB=> ?_ | with_reducible refine aD fun A B hA hB=> ?_)
  simp[c0];refine⟨fun hc=>hA ?_,fun hc=>hB ?_⟩<;>clear hA hB A B<;>(try (simp at hc;done))<;>(try (exfalso;simp at hc;omega))<;>clear hc<;>(try with_reducible refine aK ?_);(repeat with_reducible refine aA ?_);(first | with_reducible refine aR fun K' hK=> ?_ | with_reducible refine aS fun K' hK=> ?_);simp;(first | refine hK _ _ _ ?_ | done);clear K' hK;(repeat with_reducible refine aA ?_);(first | with_reducible refine aw_ret ?_ | with_reducible refine aw_retL ?_ | with_reducible refine aw_skipL ?_);simp[blockK,loopK,Post,resA,res1,expT,expA,exp1,expM,expL,okT,okA,ok1,rowOf,Tryz.f56];have e1:keepCode t l=checkN t:=(by simp[keepCode,c0]);have e2:keepR t l=[]:=(by rw[keepR,e1,if_neg c0]);rw[e1,e2];exact⟨[1],⟨⟨rfl,rfl⟩,rfl⟩,rfl⟩
set_option maxRecDepth 100000
set_option maxHeartbeats 4000000
theorem flatG_J {α:Type} {c:α→List AV} (h:∀a,(c a).all plainC=true) (t:TypeId) (l:List α):flatJ [(t,flat c l)]=true:=by
 have:(flat c l).all plainC=true:=by
  unfold flat;rw[List.all_flatMap];exact List.all_eq_true.2 fun a _=>h a
 simp only[flatJ,List.all_cons,this];rfl
theorem iC_J (t:TypeId) (l:List Int):flatJ [(t,flat iC l)]=true:=flatG_J (fun _=>rfl) t l
theorem pl_J (t:TypeId) (l:List Pl):flatJ [(t,flat Pl.cells l)]=true:=flatG_J (fun _=>rfl) t l
theorem reach_le {root:Man} {L:List Man} {t:List Pl} :(reachL root L t).length≤t.length:=by
 unfold reachL;split
 ·rw[List.length_map];exact rq_le
 ·simp
theorem prune_off {root:Man} {L:List Man} {t:List Pl} (h:¬codeV root L t=0):pruneT root L t=[]:=by unfold pruneT;rw[if_neg h]
theorem prune51_ok (root:Man) (L:List Man) (t:List Pl) (h:ValSz root L t):CallsOK Tryz.prog 51 [.agg root.cells,rowT Man.cells L,rowT Pl.cells t] (.tup [.row 0 (pruneT root L t).length,iV (codeV root L t)]) [(58,flat Pl.cells (pruneT root L t))]:=by
 have ht:=h.2.2.2.2.1;refine callsOK mixed Tryz.call51 Tryz.func51 rfl (by rw[Tryz.ntmps51];simp) ?_ rfl;rw[Tryz.ntmps51];have hR:=reached49_ok root L t h;simp only[reachR]at hR;have hl:(reachL root L t).length≤1000000000:=Nat.le_trans reach_le ht.1;have hKp:=keep56_ok t ht (reachL root L t) hl;have c3:Tryz.prog.cellsOf 3=1:=(by kernel_rfl);(repeat with_reducible refine aA ?_);(first | with_reducible refine aR fun K' hK=> ?_ | with_reducible refine aS fun K' hK=> ?_);simp;(first | refine hK _ _ _ ?_ | done);clear K' hK;(repeat with_reducible refine aA ?_);(first | with_reducible refine aR fun K' hK=> ?_ | with_reducible refine aS fun K' hK=> ?_);simp;refine acall_new hR (by first | rfl | (simp;done) | (simp;rfl) | (simp;exact⟨rfl,rfl⟩)) ?_;simp[addJ_one];(first | refine hK _ _ _ ?_ | done);clear K' hK;by_cases c0:codeV root L t=0
 ·obtain⟨e1,e2⟩:=keep_reach c0;rw[e1,e2]at hKp;generalize reachL root L t=l at*;rw[c0];(repeat with_reducible refine aA ?_);(first | with_reducible refine aR fun K' hK=> ?_ | with_reducible refine aS fun K' hK=> ?_);simp[c0];(first | refine hK _ _ _ ?_ | done);clear K' hK;repeat with_reducible refine aA ?_
  (first | with_reducible refine aC fun A B hA hB=> ?_ | with_reducible refine aD fun A B hA hB=> ?_)
  simp;refine⟨fun hc=>hA ?_,fun hc=>hB ?_⟩<;>clear hA hB A B<;>(try (simp at hc;done))<;>(try (exfalso;simp at hc;omega))<;>clear hc<;>(try with_reducible refine aK ?_);(repeat with_reducible refine aA ?_);(first | with_reducible refine aR fun K' hK=> ?_ | with_reducible refine aS fun K' hK=> ?_);simp[c3];refine acall_new hKp (by first | rfl | (simp[c3];done) | (simp[c3];rfl) | (simp[c3];exact⟨rfl,rfl⟩)) ?_;simp[addJ_one,c3];(first | refine hK _ _ _ ?_ | done);clear K' hK;(repeat with_reducible refine aA ?_);(first | with_reducible refine aw_ret ?_ | with_reducible refine aw_retL ?_ | with_reducible refine aw_skipL ?_);simp[blockK,loopK,Post,resA,res1,expT,expA,exp1,expM,expL,okT,okA,ok1,rowOf,Tryz.f51]
 ·rw[prune_off c0];(repeat with_reducible refine aA ?_);(first | with_reducible refine aR fun K' hK=> ?_ | with_reducible refine aS fun K' hK=> ?_);simp[c0];(first | refine hK _ _ _ ?_ | done);clear K' hK;repeat with_reducible refine aA ?_
  (first | with_reducible refine aC fun A B hA hB=> ?_ | with_reducible refine aD fun A B hA hB=> ?_)
  simp;refine⟨fun hc=>hA ?_,fun hc=>hB ?_⟩<;>clear hA hB A B<;>(try (simp at hc;done))<;>(try (exfalso;simp at hc;omega))<;>clear hc<;>(try with_reducible refine aK ?_);(repeat with_reducible refine aA ?_);(first | with_reducible refine aR fun K' hK=> ?_ | with_reducible refine aS fun K' hK=> ?_);simp;(first | refine hK _ _ _ ?_ | done);clear K' hK;(repeat with_reducible refine aA ?_);(first | with_reducible refine aw_ret ?_ | with_reducible refine aw_retL ?_ | with_reducible refine aw_skipL ?_);simp[blockK,loopK,Post,resA,res1,expT,expA,exp1,expM,expL,okT,okA,ok1,rowOf,Tryz.f51]
set_option maxRecDepth 100000
set_option maxHeartbeats 4000000
def prRoot:Man:=⟨⟨#[]⟩,⟨0,0,0,⟨#[]⟩⟩,[⟨1,nA,freeR⟩],[]⟩
def prX:List Man:=[⟨nA,v1,[],[]⟩,⟨nB,v1,[],[]⟩]
def prT:List Pl:=[rootP,⟨0,nA,v1⟩,⟨0,nB,v1⟩,⟨1,nB,v1⟩]
def prK:List Pl:=[rootP,⟨0,nA,v1⟩,⟨1,nB,v1⟩]
theorem pr_code:codeV prRoot prX prT=0:=by decide+kernel
theorem pr_big:bigM prRoot=false∧bigI prX=false∧bigT prT=false:=by decide+kernel
theorem pr_sz:ValSz prRoot prX prT:=valSz_of pr_big.1 pr_big.2.1 pr_big.2.2
theorem pr_e0:edgesV prRoot prX prT 0=prRoot.deps:=by
 have hm:manVal prRoot prX prT (0:Nat)=some prRoot:=(by decide+kernel);have ho:ofF prRoot.deps prRoot.rules true=prRoot.deps:=of_small (S:=[nA]) (by decide+kernel) (by decide+kernel) (by decide+kernel);unfold edgesV;rw[hm];exact ho
theorem pr_e1:edgesV prRoot prX prT 1=[]:=by
 have hm:manVal prRoot prX prT (1:Nat)=some ⟨nA,v1,[],[]⟩:=(by decide+kernel);have ho:ofF [] prRoot.rules false=[]:=of_small (S:=[]) (by decide+kernel) (by decide+kernel) (by decide+kernel);unfold edgesV;rw[hm];exact ho
theorem pr_rch (j:Nat):rchB prRoot prX prT j=decide (j<2):=by
 have g:Good prT:=check_iff.1 (codeV_zero.1 pr_code).2.2;have h1:Rch prRoot prX prT 1:=.edge (n:=0) (d:=⟨1,nA,freeR⟩) .zero (by rw[pr_e0];simp[prRoot]) (by decide+kernel);refine rch_eq g (fun j=>decide (j<2)) rfl (fun k hk=> ?_) (fun n hn hp=> ?_) (fun n d hn hd k hk=> ?_) j
 ·have:k<2:=of_decide_eq_true hk
  match k with
  | 0=>exact .zero
  | 1=>exact h1
  | k+2=>omega
 ·have:n<2:=of_decide_eq_true hn
  match n with
  | 0=>rfl
  | 1=>rfl
  | n+2=>omega
 ·have:n<2:=of_decide_eq_true hn
  match n with
  | 0=>
   rw[pr_e0]at hd;simp[prRoot]at hd;subst hd;have h2:toN prT (0:Nat) ⟨1,nA,freeR⟩=1:=(by decide+kernel);rw[h2]at hk;have:k=1:=(by omega);subst this;rfl
  | 1=>rw[pr_e1]at hd;simp at hd
  | n+2=>omega
theorem pr_reach:reachL prRoot prX prT=[0,1]:=by
 unfold reachL;rw[if_pos pr_code,kq_congr (r:=fun j=>decide (j<2)) fun j _=>pr_rch j];decide+kernel
theorem pr_prune:pruneT prRoot prX prT=prT.take 2:=by
 unfold pruneT;rw[if_pos pr_code,keepT_congr (check_iff.1 (codeV_zero.1 pr_code).2.2) (r:=fun j=>decide (j<2)) fun j _=>pr_rch j];decide+kernel
theorem pr_keep:keepCode prT [0,1,3]=0∧keepR prT [0,1,3]=prK∧keepCode prT [0,3]=151∧keepR prT [0,3]=[]∧keepCode prT [0,4]=151∧keepR prT [0,4]=[]:=by decide+kernel
def prA:List AV:=[sV ⟨#[]⟩,iV 0,iV 0,iV 0,sV ⟨#[]⟩,rowT Dep.cells prRoot.deps,.v (.slice none 0 0)]
def prB (i:Nat):List AV:=[sV ⟨#[]⟩,iV 0,iV 0,iV 0,sV ⟨#[]⟩,.row i 1,.v (.slice none 0 0)]
theorem wk_pr {P:Program} [Gl P]:Wk P (.agg prA) (.agg prRoot.cells):=
 .agg (.cons (.refl _) (.cons (.refl _) (.cons (.refl _) (.cons (.refl _) (.cons (.refl _) (.cons (.refl _) (.cons .nilRow .nil)))))))
theorem pr_flat_x:flat Man.cells prX=[sV nA,iV 1,iV 0,iV 0,sV ⟨#[]⟩,.sl 0 [],.sl 0 [],sV nB,iV 1,iV 0,iV 0,sV ⟨#[]⟩,.sl 0 [],.sl 0 []]:=rfl
theorem pr_flat_d:flat Dep.cells prRoot.deps=[iV 1,sV nA,.sl 1 [.sl 0 []]]:=rfl
theorem small109_ok:CallsOK Tryz.prog 109 [] (.tup [.agg (prB 0),.row 1 2,.row 2 4]) [(35,flat Dep.cells prRoot.deps),(27,flat Man.cells prX),(58,flat Pl.cells prT)]:=by
 refine CallsOK.weakJs (J:=[(35,[iV 1,sV nA,.sl 1 [.v (.slice none 0 0)]]),(27,[sV nA,iV 1,iV 0,iV 0,sV ⟨#[]⟩,.v (.slice none 0 0),.v (.slice none 0 0),sV nB,iV 1,iV 0,iV 0,sV ⟨#[]⟩,.v (.slice none 0 0),.v (.slice none 0 0)]),(58,flat Pl.cells prT)]) ?_ rfl ?_
 ·refine callsOK mixed Tryz.call109 Tryz.func109 rfl (by rw[Tryz.ntmps109];simp) ?_ rfl;rw[Tryz.ntmps109];(repeat with_reducible refine aA ?_);(first | with_reducible refine aR fun K' hK=> ?_ | with_reducible refine aS fun K' hK=> ?_);simp;(first | refine hK _ _ _ ?_ | done);clear K' hK;(repeat with_reducible refine aA ?_);(first | with_reducible refine aR fun K' hK=> ?_ | with_reducible refine aS fun K' hK=> ?_);simp;(first | refine hK _ _ _ ?_ | done);clear K' hK;(repeat with_reducible refine aA ?_);(first | with_reducible refine aR fun K' hK=> ?_ | with_reducible refine aS fun K' hK=> ?_);simp;(first | refine hK _ _ _ ?_ | done);clear K' hK;(repeat with_reducible refine aA ?_);(first | refine aw_regionL (some 0) [4,3] (by decide+kernel) (by decide+kernel) (fun p' hp'=>by cases hp';exact⟨0,0,by simp,by simp[rootA]⟩) fun K' hK=> ?_ | refine aw_toS (aw_regionL (some 0) [4,3] (by decide+kernel) (by decide+kernel) (fun p' hp'=>by cases hp';exact⟨0,0,by simp,by simp[rootA]⟩) fun K' hK=> ?_));simp;(first | refine hK _ _ _ ?_ | done);clear K' hK;(repeat with_reducible refine aA ?_);(first | with_reducible refine aw_ret ?_ | with_reducible refine aw_retL ?_ | with_reducible refine aw_skipL ?_);simp[blockK,loopK,Post,resA,res1,expT,expA,exp1,expM,expL,okT,okA,ok1,rowOf,Tryz.f109];exact⟨[5,7,8],⟨rfl,rfl⟩,by simp[prB],rfl⟩
 ·intro i e cs h
  match i with
  | 0=>
   simp at h;obtain⟨rfl,rfl⟩:=h;rw[pr_flat_d];exact⟨_,rfl,.cons (.refl _) (.cons (.refl _) (.cons (.sl (.cons .nil .nil)) .nil))⟩
  | 1=>
   simp at h;obtain⟨rfl,rfl⟩:=h;rw[pr_flat_x];exact⟨_,rfl,.cons (.refl _) (.cons (.refl _) (.cons (.refl _) (.cons (.refl _) (.cons (.refl _) (.cons .nil (.cons .nil (.cons (.refl _) (.cons (.refl _) (.cons (.refl _) (.cons (.refl _) (.cons (.refl _) (.cons .nil (.cons .nil .nil)))))))))))))⟩
  | 2=>simp at h;obtain⟨rfl,rfl⟩:=h;exact⟨_,rfl,WkTL.refl _⟩
  | i+3=>simp at h
theorem addJ_three (G:Hp) (nx:Nat) (p q r:TypeId×List AV):addJ G nx [p,q,r]=((G.upd nx (.row p.1 p.2)).upd (nx+1) (.row q.1 q.2)).upd (nx+2) (.row r.1 r.2):=by
 funext i;simp only[addJ,Hp.upd,List.length_cons,List.length_nil];by_cases h2:i=nx+2
 ·subst h2;simp[ofJ]
 ·by_cases h1:i=nx+1
  ·subst h1;simp[ofJ]
  ·by_cases h0:i=nx
   ·subst h0;simp[ofJ]
   ·rw[if_neg (by omega),if_neg h2,if_neg h1,if_neg h0]
theorem pr_same:∀a:List Pl,a.length≤1000000000→CallsOK Tryz.prog 32 [rowT Pl.cells a,rowT Pl.cells a] (bV true) []:=fun a ha=>by
 have h:=same16_ok a a ha;simpa using h
theorem prunes53_ok:CallsOK Tryz.prog 53 [] (bV true) []:=by
 refine callsOK mixed Tryz.call53 Tryz.func53 rfl (by rw[Tryz.ntmps53];simp) ?_ rfl;rw[Tryz.ntmps53];have c35:Tryz.prog.cellsOf 35=3:=(by kernel_rfl);have c27:Tryz.prog.cellsOf 27=7:=(by kernel_rfl);have c58:Tryz.prog.cellsOf 58=6:=(by kernel_rfl);have c3:Tryz.prog.cellsOf 3=1:=(by kernel_rfl);have hP:=prune51_ok _ _ _ pr_sz;rw[pr_code,pr_prune]at hP;have hP:=hP.weak (.cons wk_pr (.cons (.refl _) (.cons (.refl _) .nil)));have hR:=reached49_ok _ _ _ pr_sz;simp only[reachR,pr_code,pr_reach]at hR;have hR:=hR.weak (.cons wk_pr (.cons (.refl _) (.cons (.refl _) .nil)));have hK:=fun l (h:l.length≤1000000000)=>keep56_ok prT pr_sz.2.2.2.2.1 l h;have hK1:=hK [0,1,3] (by simp);have hK2:=hK [0,3] (by simp);have hK3:=hK [0,4] (by simp);obtain⟨k1,k2,k3,k4,k5,k6⟩:=pr_keep;rw[k1,k2]at hK1;rw[k3,k4]at hK2;rw[k5,k6]at hK3;clear hK k1 k2 k3 k4 k5 k6;(repeat with_reducible refine aA ?_);(first | with_reducible refine aR fun K' hK=> ?_ | with_reducible refine aS fun K' hK=> ?_);simp;(first | refine hK _ _ _ ?_ | done);clear K' hK;(repeat with_reducible refine aA ?_);(first | with_reducible refine aR fun K' hK=> ?_ | with_reducible refine aS fun K' hK=> ?_);simp;refine acall_new small109_ok (by simp) ?_;simp[addJ_three];(first | refine hK _ _ _ ?_ | done);clear K' hK;refine aw_gen (fun u X nz=>u 1=.ptr 3 0∧u 2=.row 1 2∧u 3=.row 2 4∧nz=4∧X 0=some (.row 35 (flat Dep.cells prRoot.deps))∧X 1=some (.row 27 (flat Man.cells prX))∧X 2=some (.row 58 (flat Pl.cells prT))∧X 3=some (.var 27 (prB 0))) ?_ ?_
 ·exact⟨by simp,by simp,by simp,by simp,by simp,by simp,by simp,by simp;rfl⟩
 rintro s G nx ⟨s1,s2,s3,rfl,g0,g1,g2,g3⟩;have T:∀X:Hp,(∀k,k<4→X k=G k)→seesA Tryz.prog X [.agg (prB 0),.row 1 2,.row 2 4]=some [.agg prA,rowT Man.cells prX,rowT Pl.cells prT]∧treeOf Tryz.prog X (.row 2 4)=some (rowT Pl.cells prT):=fun X hX=>by
  have t0:treeOf Tryz.prog X (.row 0 1)=some (rowT Dep.cells prRoot.deps):=treeOf_of ((hX 0 (by omega)).trans g0) c35 rfl;have t1:treeOf Tryz.prog X (.row 1 2)=some (rowT Man.cells prX):=treeOf_of ((hX 1 (by omega)).trans g1) c27 rfl;have t2:treeOf Tryz.prog X (.row 2 4)=some (rowT Pl.cells prT):=treeOf_of ((hX 2 (by omega)).trans g2) c58 rfl;refine⟨?_,t2⟩;simp only[seesA,seeA,prB,looksA,lookA,t0,t1,t2];rfl
 have TK:∀(X:Hp) (i:Nat) (l:List Int),(∀k,k<4→X k=G k)→X i=some (.row 3 (flat iC l))→seesA Tryz.prog X [.row 2 4,.row i l.length]=some [rowT Pl.cells prT,rowT iC l]:=fun X i l hX hi=>by
  have t3:treeOf Tryz.prog X (.row i l.length)=some (rowT iC l):=treeOf_of hi c3 rfl;simp only[seesA,seeA,lookA,(T X hX).2,t3]
 (repeat with_reducible refine aA ?_);(first | with_reducible refine aR fun K' hK=> ?_ | with_reducible refine aS fun K' hK=> ?_);simp[s1,s2,s3,g3];refine acall_keep hP ⟨rfl,rfl⟩ (T G fun _ _=>rfl).1 ?_;simp[addJ_one];(first | refine hK _ _ _ ?_ | done);clear K' hK;refine aw_gen (fun u X nz=>u 1=.ptr 3 0∧u 2=.row 1 2∧u 3=.row 2 4∧u 4=.row 4 2∧u 5=iV 0∧nz=5∧(∀k,k<4→X k=G k)∧X 4=some (.row 58 (flat Pl.cells (prT.take 2)))) ?_ ?_
 ·exact⟨by simp[s1],by simp[s2],by simp[s3],by simp;rfl,by simp,by simp,fun k hk=>by rw[Hp.upd_ne _ _ (by omega)],by simp⟩
 clear s1 s2 s3 s;rintro s X nx ⟨s1,s2,s3,s4,s5,rfl,hX,x4⟩;have x3:X 3=some (.var 27 (prB 0)):=(hX 3 (by omega)).trans g3;(repeat with_reducible refine aA ?_);(first | with_reducible refine aR fun K' hK=> ?_ | with_reducible refine aS fun K' hK=> ?_);simp[s1,s2,s3,x3];refine acall_keep hR ⟨rfl,rfl⟩ (T X hX).1 ?_;simp[addJ_one];(first | refine hK _ _ _ ?_ | done);clear K' hK;refine aw_gen (fun u Y nz=>u 3=.row 2 4∧u 4=.row 4 2∧u 5=iV 0∧u 6=.row 5 2∧u 7=iV 0∧nz=6∧(∀k,k<4→Y k=G k)∧Y 4=some (.row 58 (flat Pl.cells (prT.take 2)))∧Y 5=some (.row 3 (flat iC [0,1]))) ?_ ?_
 ·exact⟨by simp[s3],by simp[s4],by simp[s5],by simp,by simp,by simp,fun k hk=>by rw[Hp.upd_ne _ _ (by omega)];exact hX k hk,by simp[x4],by simp⟩
 clear s1 s2 s3 s4 s5 s x3 x4 hX X;rintro s X nx ⟨s3,s4,s5,s6,s7,rfl,hX,x4,x5⟩;have r3:[0,1,2]=List.range 3:=rfl;have r2:[0,1]=List.range 2:=rfl;(repeat with_reducible refine aA ?_);(first | with_reducible refine aR fun K' hK=> ?_ | with_reducible refine aS fun K' hK=> ?_);simp[s3,r3];refine acall_keep hK1 ⟨rfl,rfl⟩ (TK _ 6 [0,1,3] (fun k hk=>by rw[Hp.upd_ne _ _ (by omega)];exact hX k hk) (by simp;rfl)) ?_;simp[addJ_one];(first | refine hK _ _ _ ?_ | done);clear K' hK;refine aw_gen (fun u Y nz=>u 3=.row 2 4∧u 4=.row 4 2∧u 5=iV 0∧u 6=.row 5 2∧u 7=iV 0∧u 8=.row 7 3∧u 9=iV 0∧nz=8∧(∀k,k<4→Y k=G k)∧Y 4=some (.row 58 (flat Pl.cells (prT.take 2)))∧Y 5=some (.row 3 (flat iC [0,1]))∧Y 7=some (.row 58 (flat Pl.cells prK))) ?_ ?_
 ·exact⟨by simp[s3],by simp[s4],by simp[s5],by simp[s6],by simp[s7],by simp;rfl,by simp,by simp,fun k hk=>by rw[Hp.upd_ne _ _ (by omega),Hp.upd_ne _ _ (by omega)];exact hX k hk,by simp[x4],by simp[x5],by simp⟩
 clear s3 s4 s5 s6 s7 s x4 x5 hX X;rintro s X nx ⟨s3,s4,s5,s6,s7,s8,s9,rfl,hX,x4,x5,x7⟩;(repeat with_reducible refine aA ?_);(first | with_reducible refine aR fun K' hK=> ?_ | with_reducible refine aS fun K' hK=> ?_);simp[s3,r2];refine acall_keep hK2 ⟨rfl,rfl⟩ (TK _ 8 [0,3] (fun k hk=>by rw[Hp.upd_ne _ _ (by omega)];exact hX k hk) (by simp;rfl)) ?_;simp[addJ_one];(first | refine hK _ _ _ ?_ | done);clear K' hK;refine aw_gen (fun u Y nz=>u 3=.row 2 4∧u 4=.row 4 2∧u 5=iV 0∧u 6=.row 5 2∧u 7=iV 0∧u 8=.row 7 3∧u 9=iV 0∧u 11=iV 151∧nz=10∧(∀k,k<4→Y k=G k)∧Y 4=some (.row 58 (flat Pl.cells (prT.take 2)))∧Y 5=some (.row 3 (flat iC [0,1]))∧Y 7=some (.row 58 (flat Pl.cells prK))) ?_ ?_
 ·exact⟨by simp[s3],by simp[s4],by simp[s5],by simp[s6],by simp[s7],by simp[s8],by simp[s9],by simp,by simp,fun k hk=>by rw[Hp.upd_ne _ _ (by omega),Hp.upd_ne _ _ (by omega)];exact hX k hk,by simp[x4],by simp[x5],by simp[x7]⟩
 clear s3 s4 s5 s6 s7 s8 s9 s x4 x5 x7 hX X;rintro s X nx ⟨s3,s4,s5,s6,s7,s8,s9,s11,rfl,hX,x4,x5,x7⟩;(repeat with_reducible refine aA ?_);(first | with_reducible refine aR fun K' hK=> ?_ | with_reducible refine aS fun K' hK=> ?_);simp[s3,r2];refine acall_keep hK3 ⟨rfl,rfl⟩ (TK _ 10 [0,4] (fun k hk=>by rw[Hp.upd_ne _ _ (by omega)];exact hX k hk) (by simp;rfl)) ?_;simp[addJ_one];(first | refine hK _ _ _ ?_ | done);clear K' hK;refine aw_gen (fun u Y nz=>u 3=.row 2 4∧u 4=.row 4 2∧u 5=iV 0∧u 6=.row 5 2∧u 7=iV 0∧u 8=.row 7 3∧u 9=iV 0∧u 11=iV 151∧u 13=iV 151∧nz=12∧Y 2=some (.row 58 (flat Pl.cells prT))∧Y 4=some (.row 58 (flat Pl.cells (prT.take 2)))∧Y 5=some (.row 3 (flat iC [0,1]))∧Y 7=some (.row 58 (flat Pl.cells prK))) ?_ ?_
 ·exact⟨by simp[s3],by simp[s4],by simp[s5],by simp[s6],by simp[s7],by simp[s8],by simp[s9],by simp[s11],by simp,by simp,by rw[Hp.upd_ne _ _ (by omega),Hp.upd_ne _ _ (by omega),hX 2 (by omega)];exact g2,by simp[x4],by simp[x5],by simp[x7]⟩
 clear s3 s4 s5 s6 s7 s8 s9 s11 s x4 x5 x7 hX X T TK g0 g1 g2 g3 G;rintro s G nx ⟨s3,s4,s5,s6,s7,s8,s9,s11,s13,rfl,g2,g4,g5,g7⟩;have hs:∀lo hi,lo 0=some 0→hi 4=some 2→evSlice Tryz.prog G 29 (.row 2 4) lo hi=some (rowT Pl.cells (prT.take 2),frzOf G (.row 2 4)):=fun lo hi h1 h2=>
  (evSlice_tree (c:=Pl.cells) (l:=prT) (by simp) el29 (treeOf_of g2 c58 rfl) h1 h2 (by decide))
 have hS:=pr_same (prT.take 2) (by decide);have t4:∀X:Hp,X 4=G 4→treeOf Tryz.prog X (.row 4 2)=some (rowT Pl.cells (prT.take 2)):=fun X hX=>treeOf_of (hX.trans g4) c58 rfl;have hI:CallsOK Tryz.prog 37 [rowT iC [0,1],rowT iC [0,1]] (bV true) []:=ints27_ok [0,1] [0,1] (by simp);have tI:∀(X:Hp) i,X i=some (.row 3 (flat iC [0,1]))→treeOf Tryz.prog X (.row i 2)=some (rowT iC [0,1]):=fun X i hX=>treeOf_of hX c3 rfl;(repeat with_reducible refine aA ?_);(first | with_reducible refine aR fun K' hK=> ?_ | with_reducible refine aS fun K' hK=> ?_);refine aops_part 8 fun K2 hK2=> ?_;simp[s3,s4,s5,hs,bnd_some];refine acall_flat hS rfl ?_ ?_
 ·simp only[seesA,seeA,lookA,t4 _ (frzOf_ne (show¬4=2 by omega))];rfl
 simp;refine hK2 _ _ _ ?_;clear K2 hK2;refine aops_part 9 fun K2 hK2=> ?_;simp[s6,s7,r2];refine acall_flat hI rfl ?_ ?_
 ·simp only[seesA,seeA,lookA];rw[tI _ 5 (by simp[g5]),tI _ 12 (by simp;rfl)]
 simp;refine hK2 _ _ _ ?_;clear K2 hK2;have q2:nth prK 2=⟨1,nB,v1⟩:=rfl;have q3:2<prK.length:=(by decide);have q4:prK.length=3:=rfl;simp[s8,s9,s11,s13,g7,q2,q3,q4];(first | refine hK _ _ _ ?_ | done);clear K' hK;(repeat with_reducible refine aA ?_);(first | with_reducible refine aw_ret ?_ | with_reducible refine aw_retL ?_ | with_reducible refine aw_skipL ?_);simp[blockK,loopK,Post,resA,res1,expT,expA,exp1,expM,expL,okT,okA,ok1,rowOf,Tryz.f53]
set_option maxRecDepth 100000
set_option maxHeartbeats 4000000
theorem bare_sz {root:Man} {L:List Man} {t:List Pl} (h:ValSz root L t):ValSz {root with deps:=[]} L t:=by
 obtain⟨⟨a1,a2,a3,a4⟩,⟨b1,b2⟩,c⟩:=h;exact⟨⟨a1,a2,⟨by simp,by simp⟩,a4⟩,⟨by simp[Dep.okL],b2⟩,c⟩
def bareA (root:Man):List AV:=[sV root.name,iV root.ver.maj,iV root.ver.min,iV root.ver.pat,sV root.ver.pre,.v (.slice none 0 0),rowT Ru.cells root.rules]
theorem wk_bare {P:Program} [Gl P] {root:Man} :Wk P (.agg (bareA root)) (.agg ({root with deps:=[]} :Man).cells):=
 .agg (.cons (.refl _) (.cons (.refl _) (.cons (.refl _) (.cons (.refl _) (.cons (.refl _) (.cons .nilRow (.cons (.refl _) .nil)))))))
theorem none12_ok (root:Man) (L:List Man) (t:List Pl) (hl:L.length≤9223372036854775807) (htl:t.length≤9223372036854775807):CallsOK Tryz.prog 12 [.agg root.cells,rowT Man.cells L,rowT Pl.cells t] (bV true) []:=by
 refine callsOK mixed Tryz.call12 Tryz.func12 rfl (by rw[Tryz.ntmps12];simp) ?_ rfl;rw[Tryz.ntmps12];(repeat with_reducible refine aA ?_);(first | with_reducible refine aR fun K' hK=> ?_ | with_reducible refine aS fun K' hK=> ?_);simp;(first | refine hK _ _ _ ?_ | done);clear K' hK;(repeat with_reducible refine aA ?_);(first | with_reducible refine aR fun K' hK=> ?_ | with_reducible refine aS fun K' hK=> ?_);simp;refine acall_flat (big21_ok root L t hl htl) rfl (by first | rfl | (simp;done) | (simp;rfl) | (simp;exact⟨rfl,rfl⟩)) ?_;by_cases hb:bigW root L t=true
 ·simp[hb];(first | refine hK _ _ _ ?_ | done);clear K' hK;repeat with_reducible refine aA ?_
  (first | with_reducible refine aC fun A B hA hB=> ?_ | with_reducible refine aD fun A B hA hB=> ?_)
  simp;refine⟨fun hc=>hA ?_,fun hc=>hB ?_⟩<;>clear hA hB A B<;>(try (simp at hc;done))<;>(try (exfalso;simp at hc;omega))<;>clear hc<;>(try with_reducible refine aK ?_);(repeat with_reducible refine aA ?_);(first | with_reducible refine aR fun K' hK=> ?_ | with_reducible refine aS fun K' hK=> ?_);simp;(first | refine hK _ _ _ ?_ | done);clear K' hK;(repeat with_reducible refine aA ?_);(first | with_reducible refine aw_ret ?_ | with_reducible refine aw_retL ?_ | with_reducible refine aw_skipL ?_);simp[blockK,loopK,Post,resA,res1,expT,expA,exp1,expM,expL,okT,okA,ok1,rowOf,Tryz.f12]
 have hb':bigW root L t=false:=(by simpa using hb);obtain⟨b1,b2,b3⟩:=bigW_sz hb';have hsz:ValSz root L t:=valSz_of b1 b2 b3;have hB:=(prune51_ok _ L t (bare_sz hsz)).weak (.cons (wk_bare (root:=root)) (.cons (.refl _) (.cons (.refl _) .nil)));have hP:=prune51_ok root L t hsz;have c58:Tryz.prog.cellsOf 58=6:=(by kernel_rfl);have hbl:t.length≤1000000000:=(by have:=(bigT_len b3).1;omega);have sp:∀cs,cs=root.cells→splice cs 5 [.v (.slice none 0 0)]=bareA root:=fun cs h=>(by subst h;rfl);simp[hb'];(first | refine hK _ _ _ ?_ | done);clear K' hK;repeat with_reducible refine aA ?_
 (first | with_reducible refine aC fun A B hA hB=> ?_ | with_reducible refine aD fun A B hA hB=> ?_)
 simp;refine⟨fun hc=>hA ?_,fun hc=>hB ?_⟩<;>clear hA hB A B<;>(try (simp at hc;done))<;>(try (exfalso;simp at hc;omega))<;>clear hc<;>(try with_reducible refine aK ?_);(repeat with_reducible refine aA ?_);(first | with_reducible refine aR fun K' hK=> ?_ | with_reducible refine aS fun K' hK=> ?_);simp;(first | refine hK _ _ _ ?_ | done);clear K' hK;(repeat with_reducible refine aA ?_);(first | with_reducible refine aR fun K' hK=> ?_ | with_reducible refine aS fun K' hK=> ?_);simp[sp];(first | refine hK _ _ _ ?_ | done);clear K' hK;refine aw_gen (fun u X nz=>u 1=rowT Man.cells L∧u 2=rowT Pl.cells t∧u 3=.ptr 0 0∧u 7=.ptr 1 0∧nz=2∧X 0=some (.var 27 root.cells)∧X 1=some (.var 27 (bareA root))) ?_ ?_
 ·refine⟨by simp,by simp,by simp,by simp,by simp,by simp,?_⟩;simp;rfl
 rintro s G nx ⟨s1,s2,s3,s7,rfl,g0,g1⟩;have hbr:getC (bareA root) 0 7=some (bareA root):=rfl;have hbc:looksA Tryz.prog G (bareA root)=some (bareA root):=rfl;have hbt:∀X:Hp,treesOf Tryz.prog X (bareA root)=some (bareA root,X):=fun X=>rfl;(repeat with_reducible refine aA ?_);(first | with_reducible refine aR fun K' hK=> ?_ | with_reducible refine aS fun K' hK=> ?_);simp[s1,s2,s7,g1,hbr];refine acall_new hB (by first | rfl | (simp[hbt];done) | (simp[hbt];rfl) | (simp[hbt];exact⟨rfl,rfl⟩)) ?_;simp[addJ_one,hbt];(first | refine hK _ _ _ ?_ | done);clear K' hK;(repeat with_reducible refine aA ?_);(first | with_reducible refine aR fun K' hK=> ?_ | with_reducible refine aS fun K' hK=> ?_);simp[s1,s2,s3,g0];refine acall_new hP (by first | rfl | (simp;done) | (simp;rfl) | (simp;exact⟨rfl,rfl⟩)) ?_;simp[addJ_one];(first | refine hK _ _ _ ?_ | done);clear K' hK;clear hB hP hbc hbr hbt;refine aw_gen (fun u X nz=>u 2=rowT Pl.cells t∧u 8=.row 2 (pruneT {root with deps:=[]} L t).length∧u 9=iV (codeV {root with deps:=[]} L t)∧u 10=.row 3 (pruneT root L t).length∧u 11=iV (codeV root L t)∧nz=4∧X 2=some (.row 58 (flat Pl.cells (pruneT {root with deps:=[]} L t)))∧X 3=some (.row 58 (flat Pl.cells (pruneT root L t)))) ?_ ?_
 ·exact⟨by simp[s2],by simp,by simp,by simp,by simp,by simp,by simp,by simp⟩
 clear s1 s2 s3 s7 g0 g1 s G;rintro s G nx ⟨s2,s8,s9,s10,s11,rfl,g2,g3⟩;by_cases c0:codeV root L t=0
 ·obtain⟨e1,e2⟩:=prune_bare c0;obtain⟨l1,l2⟩:=prune_lens c0;rw[e1]at s9;rw[e2]at s8 g2;rw[c0]at s11;clear e1 e2;generalize pruneT root L t=u at*;have l1':(1:Int)≤u.length:=(by omega);have l2':(u.length:Int)≤t.length:=(by omega);have hS:=pr_same [rootP] (by simp);have hT:∀X:Hp,X 2=G 2→∀i,X i=some (.row 58 (flat Pl.cells [rootP]))→seesA Tryz.prog X [.row 2 1,.row i 1]=some [rowT Pl.cells [rootP],rowT Pl.cells [rootP]]:=fun X h2 i hi=>by
   have a:=treeOf_of (P:=Tryz.prog) (n:=1) (h2.trans g2) c58 rfl;have b:=treeOf_of (P:=Tryz.prog) (n:=1) hi c58 rfl;simp only[seesA,seeA,lookA,a,b]
  (repeat with_reducible refine aA ?_);(first | with_reducible refine aR fun K' hK=> ?_ | with_reducible refine aS fun K' hK=> ?_);simp[s11];(first | refine hK _ _ _ ?_ | done);clear K' hK;repeat with_reducible refine aA ?_
  (first | with_reducible refine aC fun A B hA hB=> ?_ | with_reducible refine aD fun A B hA hB=> ?_)
  simp;refine⟨fun hc=>hA ?_,fun hc=>hB ?_⟩<;>clear hA hB A B<;>(try (simp at hc;done))<;>(try (exfalso;simp at hc;omega))<;>clear hc<;>(try with_reducible refine aK ?_);(repeat with_reducible refine aA ?_);(first | with_reducible refine aR fun K' hK=> ?_ | with_reducible refine aS fun K' hK=> ?_);simp[s2,s8,s9,s10,g3];refine acall_flat prunes53_ok rfl (by first | rfl | (simp;done) | (simp;rfl) | (simp;exact⟨rfl,rfl⟩)) ?_;simp[s2,s8,s9,s10,g3];refine acall_new new20_ok (by first | rfl | (simp;done) | (simp;rfl) | (simp;exact⟨rfl,rfl⟩)) ?_;simp[addJ_one,s2,s8,s9,s10,g3];refine acall_flat hS rfl (hT _ (by simp) 4 (by simp)) ?_;simp[s2,s8,s9,s10,g3,l1',l2',l1,l2];(first | refine hK _ _ _ ?_ | done);clear K' hK;(repeat with_reducible refine aA ?_);(first | with_reducible refine aw_ret ?_ | with_reducible refine aw_retL ?_ | with_reducible refine aw_skipL ?_);simp[blockK,loopK,Post,resA,res1,expT,expA,exp1,expM,expL,okT,okA,ok1,rowOf,Tryz.f12]
 ·rw[prune_off c0]at s10 g3;(repeat with_reducible refine aA ?_);(first | with_reducible refine aR fun K' hK=> ?_ | with_reducible refine aS fun K' hK=> ?_);simp[s11,c0];(first | refine hK _ _ _ ?_ | done);clear K' hK;repeat with_reducible refine aA ?_
  (first | with_reducible refine aC fun A B hA hB=> ?_ | with_reducible refine aD fun A B hA hB=> ?_)
  simp;refine⟨fun hc=>hA ?_,fun hc=>hB ?_⟩<;>clear hA hB A B<;>(try (simp at hc;done))<;>(try (exfalso;simp at hc;omega))<;>clear hc<;>(try with_reducible refine aK ?_);(repeat with_reducible refine aA ?_);(first | with_reducible refine aR fun K' hK=> ?_ | with_reducible refine aS fun K' hK=> ?_);simp[s10,g3];refine acall_flat prunes53_ok rfl (by first | rfl | (simp;done) | (simp;rfl) | (simp;exact⟨rfl,rfl⟩)) ?_;simp[s10,g3];(first | refine hK _ _ _ ?_ | done);clear K' hK;(repeat with_reducible refine aA ?_);(first | with_reducible refine aw_ret ?_ | with_reducible refine aw_retL ?_ | with_reducible refine aw_skipL ?_);simp[blockK,loopK,Post,resA,res1,expT,expA,exp1,expM,expL,okT,okA,ok1,rowOf,Tryz.f12]
set_option maxRecDepth 100000
set_option maxHeartbeats 4000000
theorem prune_mem {root:Man} {L:List Man} {t:List Pl} {p:Pl} (h:p∈pruneT root L t):∃q∈t,p.name=q.name∧p.ver=q.ver:=by
 unfold pruneT at h;split at h
 ·unfold keepT at h;obtain⟨j,hj,rfl⟩:=List.mem_map.1 h;unfold keptQ at hj;exact⟨nth t j,nth_mem (List.mem_range.1 (List.mem_filter.1 hj).1),rfl,rfl⟩
 ·cases h
theorem prune_len {root:Man} {L:List Man} {t:List Pl} :(pruneT root L t).length≤t.length:=by
 unfold pruneT;split
 ·rw[keep_len];exact rq_le
 ·simp
theorem prune_sz {root:Man} {L:List Man} {t:List Pl} (h:ValSz root L t):ValSz root L (pruneT root L t):=by
 obtain⟨a,b,c,d,e,f⟩:=h;refine⟨a,b,c,d,⟨Nat.le_trans prune_len e.1,fun p hp=> ?_⟩,fun p hp=> ?_⟩
 ·obtain⟨q,hq,e1,e2⟩:=prune_mem hp;rw[e1,e2];exact e.2 q hq
 ·obtain⟨q,hq,e1,e2⟩:=prune_mem hp;rw[e2];exact f q hq
theorem again13_ok (root:Man) (L:List Man) (t:List Pl) (hl:L.length≤9223372036854775807) (htl:t.length≤9223372036854775807):CallsOK Tryz.prog 13 [.agg root.cells,rowT Man.cells L,rowT Pl.cells t] (bV true) []:=by
 refine callsOK mixed Tryz.call13 Tryz.func13 rfl (by rw[Tryz.ntmps13];simp) ?_ rfl;rw[Tryz.ntmps13];(repeat with_reducible refine aA ?_);(first | with_reducible refine aR fun K' hK=> ?_ | with_reducible refine aS fun K' hK=> ?_);simp;(first | refine hK _ _ _ ?_ | done);clear K' hK;(repeat with_reducible refine aA ?_);(first | with_reducible refine aR fun K' hK=> ?_ | with_reducible refine aS fun K' hK=> ?_);simp;refine acall_flat (big21_ok root L t hl htl) rfl (by first | rfl | (simp;done) | (simp;rfl) | (simp;exact⟨rfl,rfl⟩)) ?_;by_cases hb:bigW root L t=true
 ·simp[hb];(first | refine hK _ _ _ ?_ | done);clear K' hK;repeat with_reducible refine aA ?_
  (first | with_reducible refine aC fun A B hA hB=> ?_ | with_reducible refine aD fun A B hA hB=> ?_)
  simp;refine⟨fun hc=>hA ?_,fun hc=>hB ?_⟩<;>clear hA hB A B<;>(try (simp at hc;done))<;>(try (exfalso;simp at hc;omega))<;>clear hc<;>(try with_reducible refine aK ?_);(repeat with_reducible refine aA ?_);(first | with_reducible refine aR fun K' hK=> ?_ | with_reducible refine aS fun K' hK=> ?_);simp;(first | refine hK _ _ _ ?_ | done);clear K' hK;(repeat with_reducible refine aA ?_);(first | with_reducible refine aw_ret ?_ | with_reducible refine aw_retL ?_ | with_reducible refine aw_skipL ?_);simp[blockK,loopK,Post,resA,res1,expT,expA,exp1,expM,expL,okT,okA,ok1,rowOf,Tryz.f13]
 have hb':bigW root L t=false:=(by simpa using hb);obtain⟨b1,b2,b3⟩:=bigW_sz hb';have hsz:ValSz root L t:=valSz_of b1 b2 b3;have hsz2:=prune_sz hsz;have hP:=prune51_ok root L t hsz;have hR:=reached49_ok root L _ hsz2;have hP2:=prune51_ok root L _ hsz2;have hV:=valid38_ok root L t hsz;have hV2:=valid38_ok root L _ hsz2;have hC:=check18_ok _ hsz2.2.2.2.2.1;have hul:=hsz2.2.2.2.2.1.1;have c58:Tryz.prog.cellsOf 58=6:=(by kernel_rfl);simp only[reachR]at hR;simp[hb'];(first | refine hK _ _ _ ?_ | done);clear K' hK;repeat with_reducible refine aA ?_
 (first | with_reducible refine aC fun A B hA hB=> ?_ | with_reducible refine aD fun A B hA hB=> ?_)
 simp;refine⟨fun hc=>hA ?_,fun hc=>hB ?_⟩<;>clear hA hB A B<;>(try (simp at hc;done))<;>(try (exfalso;simp at hc;omega))<;>clear hc<;>(try with_reducible refine aK ?_);(repeat with_reducible refine aA ?_);(first | with_reducible refine aR fun K' hK=> ?_ | with_reducible refine aS fun K' hK=> ?_);simp;refine acall_new hP (by first | rfl | (simp;done) | (simp;rfl) | (simp;exact⟨rfl,rfl⟩)) ?_;simp[addJ_one];(first | refine hK _ _ _ ?_ | done);clear K' hK;by_cases c0:codeV root L t=0
 ·obtain⟨e1,e2,e3,e4,e5⟩:=prune_again c0;rw[e1]at hR hP2;rw[e2]at hP2;rw[e4]at hC;generalize pruneT root L t=u at*;have hI:(reachL root L u).length=u.length:=e3;refine aw_gen (fun x X nz=>x 1=rowT Man.cells L∧x 2=rowT Pl.cells t∧x 3=.ptr 0 0∧x 7=.row 1 u.length∧x 8=iV 0∧nz=2∧X 0=some (.var 27 root.cells)∧X 1=some (.row 58 (flat Pl.cells u))) ?_ ?_
  ·exact⟨by simp,by simp,by simp,by simp,by simp[c0],by simp,by simp,by simp⟩
  rintro s G nx ⟨s1,s2,s3,s7,s8,rfl,g0,g1⟩;have T:∀X:Hp,X 1=G 1→treeOf Tryz.prog X (.row 1 u.length)=some (rowT Pl.cells u):=fun X h=>treeOf_of (h.trans g1) c58 rfl;have T3:∀X:Hp,X 1=G 1→seesA Tryz.prog X [.agg root.cells,rowT Man.cells L,.row 1 u.length]=some [.agg root.cells,rowT Man.cells L,rowT Pl.cells u]:=fun X h=>by
   simp only[seesA,seeA,lookA,T X h];rfl
  (repeat with_reducible refine aA ?_);(first | with_reducible refine aR fun K' hK=> ?_ | with_reducible refine aS fun K' hK=> ?_);simp[s8];(first | refine hK _ _ _ ?_ | done);clear K' hK;repeat with_reducible refine aA ?_
  (first | with_reducible refine aC fun A B hA hB=> ?_ | with_reducible refine aD fun A B hA hB=> ?_)
  simp;refine⟨fun hc=>hA ?_,fun hc=>hB ?_⟩<;>clear hA hB A B<;>(try (simp at hc;done))<;>(try (exfalso;simp at hc;omega))<;>clear hc<;>(try with_reducible refine aK ?_);(repeat with_reducible refine aA ?_);(first | with_reducible refine aR fun K' hK=> ?_ | with_reducible refine aS fun K' hK=> ?_);simp[s1,s3,s7,g0];refine acall_keep hR ⟨rfl,iC_J _ _⟩ (T3 _ rfl) ?_;simp[addJ_one];(first | refine hK _ _ _ ?_ | done);clear K' hK;(repeat with_reducible refine aA ?_);(first | with_reducible refine aR fun K' hK=> ?_ | with_reducible refine aS fun K' hK=> ?_);simp[s1,s3,s7,g0];refine acall_keep hP2 ⟨rfl,pl_J _ _⟩ (T3 _ (by simp)) ?_;simp[addJ_one];(first | refine hK _ _ _ ?_ | done);clear K' hK;refine aw_gen (fun x X nz=>x 1=rowT Man.cells L∧x 2=rowT Pl.cells t∧x 3=.ptr 0 0∧x 7=.row 1 u.length∧x 9=.row 2 u.length∧x 10=iV 0∧x 11=.row 3 u.length∧x 12=iV 0∧nz=4∧X 0=some (.var 27 root.cells)∧X 1=some (.row 58 (flat Pl.cells u))∧X 2=some (.row 3 (flat iC (reachL root L u)))∧X 3=some (.row 58 (flat Pl.cells u))) ?_ ?_
  ·exact⟨by simp[s1],by simp[s2],by simp[s3],by simp[s7],by simp[hI],by simp,by simp,by simp,by simp,by simp[g0],by simp[g1],by simp,by simp⟩
  clear s1 s2 s3 s7 s8 g0 g1 T T3 hR hP2 s G;rintro s G nx ⟨s1,s2,s3,s7,s9,s10,s11,s12,rfl,g0,g1,g2,g3⟩;have t1:treeOf Tryz.prog G (.row 1 u.length)=some (rowT Pl.cells u):=treeOf_of g1 c58 rfl;have t3:treeOf Tryz.prog G (.row 3 u.length)=some (rowT Pl.cells u):=treeOf_of g3 c58 rfl;(repeat with_reducible refine aA ?_);(first | with_reducible refine aR fun K' hK=> ?_ | with_reducible refine aS fun K' hK=> ?_);simp[s1,s2,s3,s7,s9,s10,s11,s12,g0,g1,g2,g3];refine acall_flat prunes53_ok rfl (by first | rfl | (simp;done) | (simp;rfl) | (simp;exact⟨rfl,rfl⟩)) ?_;simp[s1,s2,s3,s7,s9,s10,s11,s12,g0,g1,g2,g3];refine acall_flat hC rfl (by simp only[seesA,seeA,lookA,t1]) ?_;simp[s1,s2,s3,s7,s9,s10,s11,s12,g0,g1,g2,g3];refine acall_flat (pr_same u hul) rfl (by simp only[seesA,seeA,lookA,t1,t3]) ?_;simp[s1,s2,s3,s7,s9,s10,s11,s12,g0,g1,g2,g3];refine acall_flat hV rfl (by first | rfl | (simp;done) | (simp;rfl) | (simp;exact⟨rfl,rfl⟩)) ?_;cases hv:validN root L t with
  | false=>
   simp;(first | refine hK _ _ _ ?_ | done);clear K' hK;(repeat with_reducible refine aA ?_);(first | with_reducible refine aw_ret ?_ | with_reducible refine aw_retL ?_ | with_reducible refine aw_skipL ?_);simp[blockK,loopK,Post,resA,res1,expT,expA,exp1,expM,expL,okT,okA,ok1,rowOf,Tryz.f13]
  | true=>
   rw[e5 hv]at hV2;simp[s1,s2,s3,s7,s9,s10,s11,s12,g0,g1,g2,g3];refine acall_flat hV2 rfl (by simp only[seesA,seeA,lookA,t1];rfl) ?_;simp;(first | refine hK _ _ _ ?_ | done);clear K' hK;(repeat with_reducible refine aA ?_);(first | with_reducible refine aw_ret ?_ | with_reducible refine aw_retL ?_ | with_reducible refine aw_skipL ?_);simp[blockK,loopK,Post,resA,res1,expT,expA,exp1,expM,expL,okT,okA,ok1,rowOf,Tryz.f13]
 ·rw[prune_off c0];(repeat with_reducible refine aA ?_);(first | with_reducible refine aR fun K' hK=> ?_ | with_reducible refine aS fun K' hK=> ?_);simp[c0];(first | refine hK _ _ _ ?_ | done);clear K' hK;repeat with_reducible refine aA ?_
  (first | with_reducible refine aC fun A B hA hB=> ?_ | with_reducible refine aD fun A B hA hB=> ?_)
  simp;refine⟨fun hc=>hA ?_,fun hc=>hB ?_⟩<;>clear hA hB A B<;>(try (simp at hc;done))<;>(try (exfalso;simp at hc;omega))<;>clear hc<;>(try with_reducible refine aK ?_);(repeat with_reducible refine aA ?_);(first | with_reducible refine aR fun K' hK=> ?_ | with_reducible refine aS fun K' hK=> ?_);simp;refine acall_flat prunes53_ok rfl (by first | rfl | (simp;done) | (simp;rfl) | (simp;exact⟨rfl,rfl⟩)) ?_;simp;(first | refine hK _ _ _ ?_ | done);clear K' hK;(repeat with_reducible refine aA ?_);(first | with_reducible refine aw_ret ?_ | with_reducible refine aw_retL ?_ | with_reducible refine aw_skipL ?_);simp[blockK,loopK,Post,resA,res1,expT,expA,exp1,expM,expL,okT,okA,ok1,rowOf,Tryz.f13]
end Go.Proofs.YtgipehooceecpaaGreatDoorAbs
