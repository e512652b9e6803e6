/- What an operation looks at, and what it leaves: kinds of operations. -/
import Derived.WalkKit
import Derived.Below
import Derived.Laws.Rows
import Derived.Laws.Build
import Derived.Laws.Slices
import Derived.Maps.AppendAt
import Derived.RangeFuncOwn
import Derived.Laws.StructEq
import Derived.Laws.Strings
import Derived.Laws.Cover3
import Derived.WideLaws
import Derived.Laws.AppendOwn
import Derived.Laws.MakeOwn
import Derived.MapKept
import Derived.OrdersIn
import Derived.AtR
import Derived.RangeFuncCalls
namespace Go.Proofs.YtmmbgjmigmchbaaGreatDoorAbs
set_option linter.unusedSectionVars false
set_option linter.unusedVariables false
set_option linter.unusedSimpArgs false
open Go Go.RowKit
inductive AV where
 | any
 | und
 | v (x:Value)
 | sl (n:Nat) (cs:List AV)
 | agg (cs:List AV)
 | tup (vs:List AV)
 | ptr (id off:Nat)
 | ea (base:AV) (off:Nat)
 | row (id n:Nat)
 | mp (id:Nat)
 | fn (f:Nat) (caps:List AV)
 | bl
 | cp (cs:List AV) (off:Nat)
 | yl (id:Nat)
 | mt (f:Nat) (fs:List AV)
 deriving Inhabited
inductive AObj where
 | var (t:TypeId) (cs:List AV)
 | row (e:TypeId) (cs:List AV)
 | frz (e:TypeId) (cs:List AV)
 | map (es:List (Value×AV))
 | dead
 | lp (st:LoopState) (pd:Option Code) (s:Nat→AV) (N:Nat) (ps:Array Tmp) (assign body:Code)
 | df
abbrev Hp:=Nat→Option AObj
def Hp.upd (G:Hp) (i:Nat) (o:AObj):Hp:=fun j=>if j=i then some o else G j
theorem Hp.bW (G:Hp) (i:Nat) (o:AObj):G.upd i o i=some o:=by simp[Hp.upd]
theorem Hp.upd_ne (G:Hp) {i j:Nat} (o:AObj) (h:j≠i):G.upd i o j=G j:=by simp[Hp.upd,h]
abbrev Sl:=Nat→AV
def Sl.upd (s:Sl) (i:Nat) (o:AV):Sl:=fun j=>if j=i then o else s j
theorem Sl.bW (s:Sl) (i:Nat) (o:AV):s.upd i o i=o:=by simp[Sl.upd]
theorem Sl.upd_ne (s:Sl) {i j:Nat} (o:AV) (h:j≠i):s.upd i o j=s j:=by simp[Sl.upd,h]
def AObj.mut:AObj→Bool
 | .var .. | .row .. | .map .. | .lp .. | .df=>true
 | _=>false
def AObj.alive:AObj→Bool
 | .dead=>false
 | _=>true
structure Ext (M:Nat→Prop) (w w':World):Prop where
 os:w'.os=w.os
 tape:w'.tape=w.tape
 output:w'.output=w.output
 size:w.heap.size≤w'.heap.size
 same:∀b,b<w.heap.size→¬M b→w'.heap[b]? =w.heap[b]?
 shape:∀b,b<w.heap.size→w'.shape? b=w.shape? b
theorem Ext.refl (M:Nat→Prop) (w:World):Ext M w w:=⟨rfl,rfl,rfl,Nat.le_refl _,fun _ _ _=>rfl,fun _ _=>rfl⟩
theorem Ext.trans {M M':Nat→Prop} {a b c:World} (h:Ext M a b) (k:Ext M' b c) (hM:∀i,i<a.heap.size→M' i→M i):Ext M a c:=
 ⟨k.os.trans h.os,k.tape.trans h.tape,k.output.trans h.output,Nat.le_trans h.size k.size,
   fun i hi hm=>(k.same i (Nat.lt_of_lt_of_le hi h.size) (fun hm'=>hm (hM i hi hm'))).trans (h.same i hi hm),
   fun i hi=>(k.shape i (Nat.lt_of_lt_of_le hi h.size)).trans (h.shape i hi)⟩
theorem Ext.mono {M M':Nat→Prop} {a b:World} (h:Ext M a b) (hM:∀i,i<a.heap.size→M i→M' i):Ext M' a b:=
 ⟨h.os,h.tape,h.output,h.size,fun i hi hm=>h.same i hi (fun hm'=>hm (hM i hi hm')),h.shape⟩
theorem iF {w w':World} {b:Nat} (h:w'.heap[b]? =w.heap[b]?):w'.shape? b=w.shape? b:=by simp[World.shape?,h]
theorem Ext.of_below {w w':World} (M:Nat→Prop) (h:Below w.heap.size w w'):Ext M w w':=
 ⟨h.os,h.tape,h.output,h.size,fun b hb _=>h.block b hb,fun b hb=>iF (h.block b hb)⟩
theorem Ext.below {M:Nat→Prop} {w w':World} (h:Ext M w w') (hM:∀b,b<w.heap.size→¬M b):Below w.heap.size w w':=
 ⟨h.os,h.tape,h.output,h.size,fun b hb=>h.same b hb (hM b hb)⟩
theorem Ext.drew (M:Nat→Prop) (w:World):Ext M w w.drew:=⟨rfl,rfl,rfl,Nat.le_refl _,fun _ _ _=>rfl,fun _ _=>rfl⟩
theorem Ext.alloc (M:Nat→Prop) (w:World) (o:Obj):Ext M w (w.alloc o):=
 Ext.of_below M ((Below.refl _ _).alloc (Nat.le_refl _) o)
theorem Ext.cell {M:Nat→Prop} {w w':World} (h:Ext M w w') {p:Addr} {u:Value} (hp:¬M p.block) (hc:w.cell? p=some u):w'.cell? p=some u:=by
 have hb:=World.block_lt_of_cell? w p hc;have:=h.same p.block hb hp;simp only[World.cell?,this]at*;exact hc
inductive TR (M:Nat→Prop) (w:World):AV→Value→Prop
 | v {x:Value} (h:x.oneCell'=true):TR M w (.v x) x
 | nil {n:Nat} (A:Option Addr) {cap:Nat} (hn:n≤cap):TR M w (.sl n []) (.slice A n cap)
 | sl {n:Nat} {cs:List AV} {ad:Addr} {cap:Nat} {us:List Value} (hn:n≤cap) (h0:0<cs.length) (hb:¬M ad.block) (hl:us.length=cs.length)
   (hc:∀i u,us[i]? =some u→w.cell? (ad.add i)=some u) (hr:∀(i:Nat) a u,cs[i]? =some a→us[i]? =some u→TR M w a u):TR M w (.sl n cs) (.slice (some ad) n cap)
theorem add_block (a:Addr) (n:Nat):(a.add n).block=a.block:=by unfold Addr.add;split<;>rfl
theorem TR.one {M:Nat→Prop} {w:World} {a:AV} {u:Value} (h:TR M w a u):u.oneCell'=true:=by
 cases h with
 | v h=>exact h
 | nil=>rfl
 | sl=>rfl
theorem TR.ext {M M':Nat→Prop} {w w':World} (he:Ext M w w') (hM:∀b,b<w.heap.size→M' b→M b) {a:AV} {u:Value} (h:TR M w a u):TR M' w' a u:=by
 induction h with
 | v h=>exact .v h
 | nil A hn=>exact .nil A hn
 | @sl n cs ad cap us hn h0 hb hl hc hr ih=>
  have h1:=hc 0 _ (List.getElem?_eq_getElem (by omega));have hlt:ad.block<w.heap.size:=(by have:=World.block_lt_of_cell? w _ h1;rwa [add_block]at this);exact .sl hn h0 (fun hm=>hb (hM _ hlt hm)) hl (fun i u' h=>he.cell (by rw[add_block];exact hb) (hc i u' h)) ih
theorem TR.lt {M:Nat→Prop} {w:World} {n:Nat} {cs:List AV} {ad:Addr} {n' cap:Nat} (h:TR M w (.sl n cs) (.slice (some ad) n' cap)) (h0:0<cs.length):ad.block<w.heap.size:=by
 cases h with
 | nil=>simp at h0
 | sl hn h0 hb hl hc hr=>
  have h1:=hc 0 _ (List.getElem?_eq_getElem (by omega));have:=World.block_lt_of_cell? w _ h1
  rwa [add_block]at this
structure En where
 φ:Nat→Option Nat
 K:Nat→Prop
 W:Nat→Prop
 F:Nat→Prop
 N:Nat→Prop
 o:Nat→Nat
def En.M (E:En) (b:Nat):Prop:=E.F b∨E.W b
inductive VR (P:Program) (E:En) (w:World):AV→Value→Prop
 | any (u:Value):VR P E w .any u
 | und:VR P E w .und undef
 | tree {a:AV} {u:Value} (h:TR E.M w a u):VR P E w a u
 | agg {cs:List AV} {us:List Value} (hl:us.length=cs.length) (h:∀(i:Nat) a u,cs[i]? =some a→us[i]? =some u→VR P E w a u) (h1:∀u∈us,u.oneCell'=true):VR P E w (.agg cs) (.agg us.toArray)
 | tup {cs:List AV} {us:List Value} (hl:us.length=cs.length) (h:∀(i:Nat) a u,cs[i]? =some a→us[i]? =some u→VR P E w a u):VR P E w (.tup cs) (.tuple us.toArray)
 | ptr {id off:Nat} {u:Value} (hK:E.K id) (h1:u.oneCell'=true) (h:∀b,E.φ id=some b→u=.pointer (some ⟨b,off,none⟩)):VR P E w (.ptr id off) u
 | row {id n:Nat} {u:Value} (hK:E.K id) (h1:u.oneCell'=true) (h:∀b,E.φ id=some b→∃cap e A,u=.slice (some A) n cap∧n≤cap∧cap≤maxLen∧w.shape? b=some (e,E.o id+cap*P.cellsOf e)∧(0<cap→A=⟨b,E.o id,none⟩)) (hN:E.N id→u=.slice none 0 0∧n=0):VR P E w (.row id n) u
 | ea {base:AV} {off:Nat} {u u0:Value} (h0:VR P E w base u0) (h1:u.oneCell'=true) (h:∀ad n cap,u0=.slice (some ad) n cap→u=.pointer (some (ad.add off))):VR P E w (.ea base off) u
 | mp {id:Nat} {u:Value} (hK:E.K id) (h1:u.oneCell'=true) (h:∀b,E.φ id=some b→u=.map (some b)):VR P E w (.mp id) u
 | bl (b:Bool):VR P E w .bl (.bool b)
 | yl {id:Nat} {u:Value} (hK:E.K id) (h1:u.oneCell'=true) (h:∀b,E.φ id=some b→u=.func (.yield b) #[] #[]):VR P E w (.yl id) u
 | cp {cs:List AV} {us:List Value} {ad:Addr} {off:Nat} (hb:¬E.M ad.block) (hl:us.length=cs.length) (h0:0<cs.length) (hc:∀i u,us[i]? =some u→w.cell? (ad.add i)=some u) (hr:∀(i:Nat) a u,cs[i]? =some a→us[i]? =some u→TR E.M w a u):VR P E w (.cp cs off) (.pointer (some (ad.add off)))
 | fn {f:Nat} {cs:List AV} {us:List Value} (hl:us.length=cs.length) (h:∀(i:Nat) a u,cs[i]? =some a→us[i]? =some u→VR P E w a u):VR P E w (.fn f cs) (.func (.func f) #[] us.toArray)
 | mt {f:Nat} {cs:List AV} {us:List Value} (hl:us.length=cs.length) (h:∀(i:Nat) a u,cs[i]? =some a→us[i]? =some u→VR P E w a u):VR P E w (.mt f cs) (.func (.func f) us.toArray #[])
structure En.Le (w:World) (E E':En):Prop where
 K:∀i,E.K i→E'.K i
 φ:∀i b,E.K i→E'.φ i=some b→E.φ i=some b
 W:∀b,b<w.heap.size→E'.W b→E.W b
 F:E'.F=E.F
 N:∀i,E.K i→E'.N i→E.N i
 old:∀i b,b<w.heap.size→E'.φ i=some b→∃j,E.φ j=some b
 o:∀i,E.K i→E'.o i=E.o i
theorem En.Le.refl (w:World) (E:En):En.Le w E E:=⟨fun _ h=>h,fun _ _ _ h=>h,fun _ _ h=>h,rfl,fun _ _ h=>h,fun i _ _ h=>⟨i,h⟩,fun _ _=>rfl⟩
theorem En.Le.trans {w w':World} {E E' E'':En} (h:En.Le w E E') (k:En.Le w' E' E'') (hs:w.heap.size≤w'.heap.size):En.Le w E E'':=
 ⟨fun i hi=>k.K i (h.K i hi),fun i b hi hb=>h.φ i b hi (k.φ i b (h.K i hi) hb),fun b hb hm=>h.W b hb (k.W b (Nat.lt_of_lt_of_le hb hs) hm),k.F.trans h.F,fun i hi hn=>h.N i hi (k.N i (h.K i hi) hn),
   fun i b hb hi=>by obtain⟨j,hj⟩:=k.old i b (Nat.lt_of_lt_of_le hb hs) hi;exact h.old j b hb hj,
   fun i hi=>(k.o i (h.K i hi)).trans (h.o i hi)⟩
theorem En.Le.M {w:World} {E E':En} (h:En.Le w E E'):∀b,b<w.heap.size→E'.M b→E.M b:=fun b hb hm=>by
 rcases hm with hm | hm
 ·exact .inl (by rw[←h.F];exact hm)
 ·exact .inr (h.W b hb hm)
theorem Ext.toM {E:En} {w w':World} (h:Ext E.W w w'):Ext E.M w w':=h.mono fun _ _ h=> .inr h
theorem Ox {w:World} {b:Nat} {x:TypeId×Nat} (h:w.shape? b=some x):b<w.heap.size:=by
 rcases Nat.lt_or_ge b w.heap.size with h' | h'
 ·exact h'
 ·simp[World.shape?,Array.getElem?_eq_none h']at h
theorem VR.ext {P:Program} {E E':En} {w w':World} (he:Ext E.W w w') (hE:En.Le w E E') {a:AV} {u:Value} (h:VR P E w a u):VR P E' w' a u:=by
 induction h with
 | any u=>exact .any u
 | und=>exact .und
 | tree h=>exact .tree (h.ext he.toM hE.M)
 | agg hl h h1 ih=>exact .agg hl ih h1
 | tup hl h ih=>exact .tup hl ih
 | ptr hK h1 h=>exact .ptr (hE.K _ hK) h1 (fun b hb=>h b (hE.φ _ b hK hb))
 | row hK h1 h hN=>
  refine .row (hE.K _ hK) h1 (fun b hb=> ?_) (fun hn=>hN (hE.N _ hK hn));obtain⟨cap,e,A,hu,hn,hm,hs,hA⟩:=h b (hE.φ _ b hK hb);exact⟨cap,e,A,hu,hn,hm,by rw[hE.o _ hK];exact(he.shape b (Ox hs)).trans hs,fun h=>by rw[hE.o _ hK];exact hA h⟩
 | ea h0 h1 h ih=>exact .ea ih h1 h
 | mp hK h1 h=>exact .mp (hE.K _ hK) h1 (fun b hb=>h b (hE.φ _ b hK hb))
 | bl b=>exact .bl b
 | yl hK h1 h=>exact .yl (hE.K _ hK) h1 (fun b hb=>h b (hE.φ _ b hK hb))
 | @cp cs us ad off hb hl h0 hc hr=>
  have h1:=hc 0 _ (List.getElem?_eq_getElem (by omega));have hlt:ad.block<w.heap.size:=(by have:=World.block_lt_of_cell? w _ h1;rwa [add_block]at this);exact .cp (fun hm=>hb (hE.M _ hlt hm)) hl h0 (fun i u h=>he.toM.cell (by rw[add_block];exact hb) (hc i u h)) (fun i a u ha hu=>(hr i a u ha hu).ext he.toM hE.M)
 | fn hl h ih=>exact .fn hl ih
 | mt hl h ih=>exact .mt hl ih
def OR (P:Program) (E:En) (w:World) (d b:Nat):AObj→Prop
 | .var t cs=>∃us:List Value,w.heap[b]? =some (.cells us.toArray t (0,0))∧us.length=cs.length∧(∀u∈us,u.oneCell'=true)∧(∀(i:Nat) a u,cs[i]? =some a→us[i]? =some u→VR P E w a u)∧d=0
 | .row e cs=>∃us:List Value,w.heap[b]? =some (.cells us.toArray e (0,0))∧d+cs.length≤us.length∧∀(i:Nat) a u,cs[i]? =some a→us[d+i]? =some u→TR E.M w a u
 | .frz e cs=>∃us:List Value,w.heap[b]? =some (.cells us.toArray e (0,0))∧d+cs.length≤us.length∧∀(i:Nat) a u,cs[i]? =some a→us[d+i]? =some u→TR E.M w a u
 | .map es=>∃(ents:Array MapEntry) (clock:Nat),w.heap[b]? =some (.map ents clock)∧ents.size=es.length∧(∀(i:Nat) e en,es[i]? =some e→ents[i]? =some en→en.key=e.1∧VR P E w e.2 en.val)∧(ents.toList.map (·.born)).Nodup∧∀en∈ents.toList,en.born<clock
 | .dead=>True
 | .lp st pd s N ps assign body=>∃(fn:FuncId) (tmps:Array Value) (D:Nat),w.heap[b]? =some (.loop {state:=st,pending:=pd,fn,tmps,params:=ps,assign,body,defers:=D})∧tmps.size=N∧∀t,VR P E w (s t) (tmps.getD t undef)
 | .df=>w.heap[b]? =some (.deferred (some []))
theorem OR.ext {P:Program} {E E':En} {w w':World} (he':Ext E.W w w') (hE:En.Le w E E') {d d' b:Nat} {o:AObj} (hd:d'=d) (hb:w'.heap[b]? =w.heap[b]?) (h:OR P E w d b o):OR P E' w' d' b o:=by
 subst hd;cases o with
 | var t cs=>obtain⟨us,h1,h2,h3,h4,h5⟩:=h;exact⟨us,hb.trans h1,h2,h3,fun i a u ha hu=>(h4 i a u ha hu).ext he' hE,h5⟩
 | row e cs=>obtain⟨us,h1,h2,h4⟩:=h;exact⟨us,hb.trans h1,h2,fun i a u ha hu=>(h4 i a u ha hu).ext he'.toM hE.M⟩
 | frz e cs=>obtain⟨us,h1,h2,h4⟩:=h;exact⟨us,hb.trans h1,h2,fun i a u ha hu=>(h4 i a u ha hu).ext he'.toM hE.M⟩
 | map es=>obtain⟨ents,clock,h1,h2,h3,h4,h5⟩:=h;exact⟨ents,clock,hb.trans h1,h2,fun i e en he hen=>⟨(h3 i e en he hen).1,(h3 i e en he hen).2.ext he' hE⟩,h4,h5⟩
 | dead=>exact trivial
 | lp st pd s N ps assign body=>obtain⟨fn,tmps,D,h1,h2,h3⟩:=h;exact⟨fn,tmps,D,hb.trans h1,h2,fun t=>(h3 t).ext he' hE⟩
 | df=>exact hb.trans h
structure ExtC (M:Nat→Prop) (w w':World):Prop where
 size:w.heap.size≤w'.heap.size
 same:∀b o,w.heap[b]? =some o→o.isCells=true→¬M b→w'.heap[b]? =some o
theorem ExtC.refl (M:Nat→Prop) (w:World):ExtC M w w:=⟨Nat.le_refl _,fun _ _ h _ _=>h⟩
theorem ExtC.trans {M M':Nat→Prop} {a b c:World} (h:ExtC M a b) (k:ExtC M' b c) (hM:∀i,i<a.heap.size→M' i→M i):ExtC M a c:=
 ⟨Nat.le_trans h.size k.size,fun i o ho hc hm=>k.same i o (h.same i o ho hc hm) hc fun hm'=>hm (hM i (Array.getElem?_eq_some_iff.1 ho).1 hm')⟩
theorem ExtC.mono {M M':Nat→Prop} {a b:World} (h:ExtC M a b) (hM:∀i,i<a.heap.size→M i→M' i):ExtC M' a b:=
 ⟨h.size,fun i o ho hc hm=>h.same i o ho hc fun hm'=>hm (hM i (Array.getElem?_eq_some_iff.1 ho).1 hm')⟩
theorem Ext.toC {M:Nat→Prop} {a b:World} (h:Ext M a b):ExtC M a b:=⟨h.size,fun i o ho _ hm=>(h.same i (Array.getElem?_eq_some_iff.1 ho).1 hm).trans ho⟩
class Gl (P:Program) where
 ok:World→Prop
 glob:Nat→Option (List Value)
 inl:FuncId→Bool
 shr:TypeId→Bool
 holds:∀w g vs,ok w→glob g=some vs→(∀v∈vs,v.oneCell'=true)∧∀i v,vs[i]? =some v→w.cell? ⟨g,i,none⟩=some v
structure Rel (P:Program) [Gl P] (E:En) (w:World) (G:Hp):Prop where
 inj:∀i j b,E.φ i=some b→E.φ j=some b→i=j
 dom:∀i b,E.φ i=some b→∃o,G i=some o∧o.alive=true
 lt:∀i b,E.φ i=some b→b<w.heap.size
 obj:∀i o,G i=some o→o.alive=true→(∃b,E.φ i=some b∧OR P E w (E.o i) b o)∨(E.N i∧∃e,o=.row e [])
 K:∀i,E.K i↔∃o,G i=some o
 W:∀b,E.W b↔∃i o,E.φ i=some b∧G i=some o∧o.mut=true
 nF:∀i b,E.φ i=some b→¬E.F b
 Flt:∀b,E.F b→b<w.heap.size
 good:∀w',ExtC E.W w w'→Gl.ok P w'
theorem Ext.after {E E1:En} {w w1 w2:World} (he:Ext E.W w w1) (hle:En.Le w E E1) (h:ExtC E1.W w1 w2):ExtC E.W w w2:=he.toC.trans h fun b hb hW=>hle.W b hb hW
theorem Rel.FY {P:Program} [Gl P] {E:En} {w:World} {G:Hp} (hR:Rel P E w G) {i:Nat} {o:AObj} (hG:G i=some o) (ha:o.alive=true) (hne:∀e,o≠ .row e []):∃b,E.φ i=some b∧OR P E w (E.o i) b o:=by
 rcases hR.obj i o hG ha with h | ⟨_,e,he⟩
 ·exact h
 ·exact absurd he (hne e)
section
variable (P:Program)
def tyI (t:TypeId):Option (Bool×Nat):=
 match P.underlying t,P.info? t with
 | some (.struct _),some i=>if i.size=0 then none else some (true,i.size)
 | some (.array _ _),some i=>if i.size=0 then none else some (true,i.size)
 | some _,some i=>if i.size=1 then some (false,1)else none
 | _,_=>none
def elI (t:TypeId):Option (TypeId×Nat×Nat×List Value):=
 match P.underlying t with
 | some (.slice e)=>match P.info? e with
  | some i=>match i.zero with
   | some z=>if 0<i.size∧z.cells.size=i.size∧z.cells.all (·.oneCell')=true then some (e,i.size,i.bytes,z.cells.toList)else none
   | none=>none
  | none=>none
 | _=>none
def flI (s:TypeId) (f:Nat):Option (Nat×Bool×Nat):=
 match P.underlying s with
 | some (.struct fs)=>match fs[f]? with
  | some fd=>match tyI P fd.type with
   | some (b,k)=>some (fd.offset,b,k)
   | none=>none
  | none=>none
 | _=>none
def zrI (t:TypeId):Option (List Value):=
 match P.info? t with
 | some i=>match i.zero with
  | some z=>if z.cells.all (·.oneCell')=true then some z.cells.toList else none
  | none=>none
 | none=>none
end
def AV.cells:AV→List AV
 | .agg cs=>cs
 | a=>[a]
def AV.one:AV→Bool
 | .any | .und | .agg _ | .tup _=>false
 | _=>true
def AV.mk (b:Bool) (cs:List AV):AV:=if b then .agg cs else cs.headD .any
def MJ:AV→Option Value
 | .v x=>some x
 | _=>none
def zf:AV→Option Value
 | .v x=>some x
 | .agg cs=>match cs.mapM MJ with
  | some xs=>some (.agg xs.toArray)
  | none=>none
 | _=>none
def splice (cs:List AV) (off:Nat) (new:List AV):List AV:=cs.take off++new++cs.drop (off+new.length)
def rC (G:Hp):AV→Option (List AV)
 | .ptr id off=>match G id with
  | some (.var _ cs)=>some (cs.drop off)
  | _=>none
 | .ea (.sl _ cs) off=>some (cs.drop off)
 | .cp cs off=>some (cs.drop off)
 | .ea (.row id _) off=>match G id with
  | some (.row _ cs)=>some (cs.drop off)
  | some (.frz _ cs)=>some (cs.drop off)
  | some (.var _ cs)=>some (cs.drop off)
  | _=>none
 | _=>none
def iG (P:Program) (G:Hp) (t:TypeId) (a:AV):Option AV:=
 match tyI P t,rC G a with
 | some (b,k),some cs=>if k≤cs.length then some (.mk b (cs.take k))else none
 | _,_=>none
section
variable {P:Program} {E:En} {w:World}
theorem jF {t:TypeId} {b:Bool} {k:Nat} (h:tyI P t=some (b,k)):(∀w,(isAgg t).run P w=.ok b w)∧(∀w,(sizeOf t).run P w=.ok k w)∧0<k∧(b=false→k=1)∧P.cellsOf t=k∧(P.info? t).map (·.size)=some k∧(P.underlying t).isSome=true:=by
 unfold tyI at h;cases hi:P.info? t with
 | none=>rw[hi]at h;cases hu:P.underlying t<;>rw[hu]at h<;>(try cases‹TypeDesc›)<;>simp at h
 | some i=>
  cases hu:P.underlying t with
  | none=>rw[hu]at h;simp at h
  | some d=>
   have h1:∀w,(isAgg t).run P w=.ok (match d with | .struct _ | .array _ _=>true | _=>false) w:=by
    intro w;unfold isAgg;rw[Sem.run_bind,run_underlying hu w];cases d<;>simp
   have h2:∀w,(sizeOf t).run P w=.ok i.size w:=(by intro w;simp[sizeOf,typeInfo,hi]);have h3:P.cellsOf t=i.size:=(by simp[Program.cellsOf,hi]);rw[hi,hu]at h;cases d<;>simp at h<;>(obtain⟨h4,rfl,rfl⟩:=h)<;>(refine⟨fun w=>h1 w,fun w=> ?_,?_,?_,?_,?_,by simp⟩)<;>first | (rw[h2 w];simp_all;done) | (simp_all;done) | omega
theorem VR.cells_one {a:AV} {u:Value} (ha:a.one=true) (h:VR P E w a u):u.oneCell'=true:=by
 cases h with
 | any=>simp[AV.one]at ha
 | und=>simp[AV.one]at ha
 | tree h=>exact h.one
 | agg=>simp[AV.one]at ha
 | tup=>simp[AV.one]at ha
 | ptr _ h _=>exact h
 | row _ h _ _=>exact h
 | ea _ h _=>exact h
 | mp _ h _=>exact h
 | fn=>rfl
 | mt=>rfl
 | bl=>rfl
 | cp=>rfl
 | yl _ h _=>exact h
theorem VR.oQ {n:Nat} {cs:List AV} {u:Value} (h:VR P E w (.sl n cs) u):TR E.M w (.sl n cs) u:=by
 cases h with
 | tree h=>exact h
theorem VR.iE {x u:Value} (h:VR P E w (.v x) u):u=x∧x.oneCell'=true:=by
 cases h with
 | tree h=>cases h with | v h=>exact⟨rfl,h⟩
theorem VR.zK {id off:Nat} {u:Value} {b:Nat} (h:VR P E w (.ptr id off) u) (hb:E.φ id=some b):u=.pointer (some ⟨b,off,none⟩):=by
 cases h with
 | tree h=>cases h
 | ptr _ _ h=>exact h b hb
theorem VR.sQ {id n:Nat} {u:Value} {b:Nat} (h:VR P E w (.row id n) u) (hb:E.φ id=some b):∃cap e A,u=.slice (some A) n cap∧n≤cap∧cap≤maxLen∧w.shape? b=some (e,E.o id+cap*P.cellsOf e)∧(0<cap→A=⟨b,E.o id,none⟩):=by
 cases h with
 | tree h=>cases h
 | row _ _ h _=>exact h b hb
theorem VR.CY {id n:Nat} {u:Value} {b:Nat} (h:VR P E w (.row id n) u) (hb:E.φ id=some b) {us:Array Value} {t:TypeId} {fr:Nat×Nat} (hus:w.heap[b]? =some (.cells us t fr)) (hlt:E.o id<us.size):
  ∃cap e,u=.slice (some ⟨b,E.o id,none⟩) n cap∧n≤cap∧cap≤maxLen∧w.shape? b=some (e,E.o id+cap*P.cellsOf e):=by
 obtain⟨cap,e,A,rfl,hn,hm,hs,hA⟩:=h.sQ hb;have h0:0<cap:=by
  rcases Nat.eq_zero_or_pos cap with rfl | h
  ·simp only[World.shape?,hus]at hs;simp at hs;omega
  ·exact h
 obtain rfl:=hA h0;exact⟨cap,e,rfl,hn,hm,hs⟩
theorem VR.xA {id n:Nat} {u:Value} (h:VR P E w (.row id n) u) (hb:E.N id):u=.slice none 0 0∧n=0:=by
 cases h with
 | tree h=>cases h
 | row _ _ _ h=>exact h hb
theorem VR.LG {base:AV} {off:Nat} {u:Value} (h:VR P E w (.ea base off) u):∃u0,VR P E w base u0∧∀ad n cap,u0=.slice (some ad) n cap→u=.pointer (some (ad.add off)):=by
 cases h with
 | tree h=>cases h
 | ea h0 _ h=>exact⟨_,h0,h⟩
theorem VR.jO {cs:List AV} {u:Value} (h:VR P E w (.agg cs) u):∃us:List Value,u=.agg us.toArray∧us.length=cs.length∧(∀(i:Nat) a x,cs[i]? =some a→us[i]? =some x→VR P E w a x)∧∀x∈us,x.oneCell'=true:=by
 cases h with
 | tree h=>cases h
 | agg hl h h1=>exact⟨_,rfl,hl,h,h1⟩
theorem VR.sD {cs:List AV} {u:Value} (h:VR P E w (.tup cs) u):∃us:List Value,u=.tuple us.toArray∧us.length=cs.length∧∀(i:Nat) a x,cs[i]? =some a→us[i]? =some x→VR P E w a x:=by
 cases h with
 | tree h=>cases h
 | tup hl h=>exact⟨_,rfl,hl,h⟩
theorem VR.TT {id:Nat} {u:Value} {b:Nat} (h:VR P E w (.yl id) u) (hb:E.φ id=some b):u=.func (.yield b) #[] #[]:=by
 cases h with
 | tree h=>cases h
 | yl _ _ h=>exact h b hb
theorem VR.TD {f:Nat} {cs:List AV} {u:Value} (h:VR P E w (.mt f cs) u):∃us:List Value,u=.func (.func f) us.toArray #[]∧us.length=cs.length∧∀(i:Nat) a x,cs[i]? =some a→us[i]? =some x→VR P E w a x:=by
 cases h with
 | tree h=>cases h
 | mt hl h=>exact⟨_,rfl,hl,h⟩
theorem VR.Dk {f:Nat} {cs:List AV} {u:Value} (h:VR P E w (.fn f cs) u):∃us:List Value,u=.func (.func f) #[] us.toArray∧us.length=cs.length∧∀(i:Nat) a x,cs[i]? =some a→us[i]? =some x→VR P E w a x:=by
 cases h with
 | tree h=>cases h
 | fn hl h=>exact⟨_,rfl,hl,h⟩
theorem add_add (a:Addr) (i j:Nat):(a.add i).add j=a.add (i+j):=by
 unfold Addr.add;by_cases hi:i=0
 ·subst hi;simp
 ·by_cases hj:j=0
  ·subst hj;simp[hi]
  ·simp[hi,hj,Nat.add_assoc]
theorem add_lit (b o k:Nat):(⟨b,o,none⟩:Addr).add k=⟨b,o+k,none⟩:=by unfold Addr.add;split<;>simp_all
theorem eX {b:Nat} {us:Array Value} {t:TypeId} {fr:Nat×Nat} (h:w.heap[b]? =some (.cells us t fr)) (i:Nat):w.cell? ⟨b,i,none⟩=us[i]? :=by simp[World.cell?,h]
theorem Aw [Gl P] {G:Hp} (hR:Rel P E w G) {a:AV} {u:Value} (ha:VR P E w a u) {cs:List AV} (h:rC G a=some cs) (h0:0<cs.length):
  ∃ad,u=.pointer (some ad)∧∃us:List Value,us.length=cs.length∧(∀i x,us[i]? =some x→w.cell? (ad.add i)=some x)∧(∀(i:Nat) c x,cs[i]? =some c→us[i]? =some x→VR P E w c x)∧∀x∈us,x.oneCell'=true:=by
 match a,ha,h with
 | .ptr id off,ha,h=>
  simp only[rC]at h;cases hG:G id with
  | none=>simp[hG]at h
  | some o=>
   cases o<;>simp[hG]at h;rename_i t cs0;obtain⟨b,hb,us,h1,h2,h3,h4,_⟩:=hR.FY hG rfl (fun e he=>by cases he);refine⟨_,ha.zK hb,us.drop off,?_,fun i x hx=> ?_,fun i c x hc hx=> ?_,fun x hx=>h3 x (List.mem_of_mem_drop hx)⟩
   ·rw[←h,List.length_drop,List.length_drop,h2]
   ·rw[add_lit,eX h1];rw[List.getElem?_drop]at hx;simpa using hx
   ·rw[←h,List.getElem?_drop]at hc;rw[List.getElem?_drop]at hx;exact h4 _ c x hc hx
 | .ea (.sl n cs0) off,ha,h=>
  simp only[rC,Option.some.injEq]at h;obtain⟨u0,h1,h2⟩:=ha.LG;have hl:0<cs0.length:=(by rw[←h,List.length_drop]at h0;omega);cases h1.oQ with
  | nil=>simp at hl
  | @sl _ _ ad cap us hn _ hb hlen hc hr=>
   refine⟨_,h2 _ _ _ rfl,us.drop off,?_,fun i x hx=> ?_,fun i c x hcc hx=> ?_,fun x hx=> ?_⟩
   ·rw[←h,List.length_drop,List.length_drop,hlen]
   ·rw[add_add];rw[List.getElem?_drop]at hx;exact hc _ x hx
   ·rw[←h,List.getElem?_drop]at hcc;rw[List.getElem?_drop]at hx;exact .tree (hr _ c x hcc hx)
   ·obtain⟨i,hi,rfl⟩:=List.mem_iff_getElem.1 (List.mem_of_mem_drop hx);exact(hr i _ _ (List.getElem?_eq_getElem (by omega)) (List.getElem?_eq_getElem hi)).one
 | .cp cs0 off,ha,h=>
  simp only[rC,Option.some.injEq]at h;cases ha with
  | tree h=>cases h
  | @cp _ us ad _ hb hl _ hc hr=>
   refine⟨_,rfl,us.drop off,?_,fun i x hx=> ?_,fun i c x hcc hx=> ?_,fun x hx=> ?_⟩
   ·rw[←h,List.length_drop,List.length_drop,hl]
   ·rw[add_add];rw[List.getElem?_drop]at hx;exact hc _ x hx
   ·rw[←h,List.getElem?_drop]at hcc;rw[List.getElem?_drop]at hx;exact .tree (hr _ c x hcc hx)
   ·obtain⟨i,hi,rfl⟩:=List.mem_iff_getElem.1 (List.mem_of_mem_drop hx);exact(hr i _ _ (List.getElem?_eq_getElem (by omega)) (List.getElem?_eq_getElem hi)).one
 | .ea (.row id n) off,ha,h=>
  obtain⟨u0,h1,h2⟩:=ha.LG;simp only[rC]at h;by_cases hvar:∃t cs0,G id=some (.var t cs0)
  ·obtain⟨t,cs0,hG⟩:=hvar;rw[hG]at h;simp only[Option.some.injEq]at h;obtain⟨b,hb,us,g1,g2,g3,g4,g5⟩:=hR.FY hG rfl (fun e he=>by cases he);obtain⟨cap,e',rfl,hn,hm,hs⟩:=h1.CY hb g1 (by rw[←h,List.length_drop]at h0;rw[g5,List.size_toArray];omega);refine⟨_,h2 _ _ _ rfl,us.drop off,?_,fun i x hx=> ?_,fun i c x hc hx=> ?_,fun x hx=>g3 x (List.mem_of_mem_drop hx)⟩
   ·rw[←h,List.length_drop,List.length_drop,g2]
   ·rw[g5,add_lit,add_lit,eX g1];rw[List.getElem?_drop]at hx;simpa using hx
   ·rw[←h,List.getElem?_drop]at hc;rw[List.getElem?_drop]at hx;exact g4 _ c x hc hx
  have key:∃(o:AObj) (e:TypeId) (cs0:List AV),G id=some o∧o.alive=true∧(o=.row e cs0∨o=.frz e cs0)∧cs=cs0.drop off∧∀d b,OR P E w d b o→∃us:List Value,w.heap[b]? =some (.cells us.toArray e (0,0))∧d+cs0.length≤us.length∧∀(i:Nat) a u,cs0[i]? =some a→us[d+i]? =some u→TR E.M w a u:=by
   cases hG:G id with
   | none=>simp[hG]at h
   | some o=>
    cases o<;>simp[hG]at h
    ·exact absurd ⟨_,_,hG⟩ hvar
    ·exact⟨_,_,_,rfl,rfl,.inl rfl,h.symm,fun d b hb=>hb⟩
    ·exact⟨_,_,_,rfl,rfl,.inr rfl,h.symm,fun d b hb=>hb⟩
  obtain⟨o,e,cs0,hG,hal,hoo,rfl,hO⟩:=key;obtain⟨b,hb,ho⟩:=hR.FY hG hal (fun e' he=>by
   rcases hoo with rfl | rfl
   ·injection he with _ he;subst he;simp at h0
   ·cases he)
  obtain⟨us,h3,h4,h5⟩:=hO _ b ho;obtain⟨cap,e',rfl,hn,hm,hs⟩:=h1.CY hb h3 (by rw[List.length_drop]at h0;rw[List.size_toArray];omega);generalize E.o id=d at*;have h5':∀(i:Nat) a u,cs0[i]? =some a→(us.drop d)[i]? =some u→TR E.M w a u:=fun i a u ha hu=>by
   rw[List.getElem?_drop]at hu;exact h5 i a u ha hu
  have hl':cs0.length≤(us.drop d).length:=(by rw[List.length_drop];omega);refine⟨_,h2 _ _ _ rfl,((us.drop d).take cs0.length).drop off,?_,fun i x hx=> ?_,fun i c x hcc hx=> ?_,fun x hx=> ?_⟩
  ·rw[List.length_drop,List.length_drop,List.length_take];omega
  ·rw[add_lit,add_lit,eX h3];rw[List.getElem?_drop,List.getElem?_take]at hx;split at hx
   ·rw[List.getElem?_drop]at hx;simpa [Nat.add_assoc]using hx
   ·simp at hx
  ·rw[List.getElem?_drop]at hcc;rw[List.getElem?_drop,List.getElem?_take]at hx;split at hx
   ·exact .tree (h5' _ c x hcc hx)
   ·simp at hx
  ·obtain⟨i,hi,rfl⟩:=List.mem_iff_getElem.1 (List.mem_of_mem_drop hx);rw[List.length_take]at hi;have hx2:((us.drop d).take cs0.length)[i]? =some ((us.drop d).take cs0.length)[i]:=List.getElem?_eq_getElem (by rw[List.length_take];omega);rw[List.getElem?_take,if_pos (by omega)]at hx2;exact(h5' i _ _ (List.getElem?_eq_getElem (by omega)) hx2).one
theorem BH {t:TypeId} {b:Bool} {k:Nat} (hT:tyI P t=some (b,k)) {cs:List AV} {us:List Value} {ad:Addr} {val:AV} (hk:k≤cs.length) (hl:us.length=cs.length) (hc:∀i x,us[i]? =some x→w.cell? (ad.add i)=some x)
  (hv:∀(i:Nat) c x,cs[i]? =some c→us[i]? =some x→VR P E w c x) (hone:∀x∈us,x.oneCell'=true) (h:AV.mk b (cs.take k)=val):∃x,(Instr.loadAt t (.pointer (some ad))).run P w=.ok x w∧VR P E w val x:=by
 obtain⟨h1,h2,h3,h4,h5,h6,h7⟩:=jF hT;have hload:b=true→(Instr.loadAt t (.pointer (some ad))).run P w=.ok (.agg (us.take k).toArray) w:=by
  rintro rfl;have hlc:=run_loadCells_list (P:=P) w ad (us.take k) (fun j v hj=>by
   rw[List.getElem?_take]at hj;split at hj
   ·exact hc j v hj
   ·simp at hj)
  rw[List.length_take,Nat.min_eq_left (by omega)]at hlc;simp[Instr.loadAt,Instr.sureAddr,loadVar,Sem.run_bind,h1,h2,hlc]
 cases b with
 | true=>
  refine⟨_,hload rfl,?_⟩;rw[←h];simp only[AV.mk,if_true];refine .agg (by rw[List.length_take,List.length_take,hl]) (fun i c x hcc hx=> ?_) (fun x hx=>hone x (List.mem_of_mem_take hx));rw[List.getElem?_take]at hcc hx;split at hcc
  ·rename_i hi;rw[if_pos hi]at hx;exact hv i c x hcc hx
  ·simp at hcc
 | false=>
  have hk1:=h4 rfl;subst hk1;have hu0:us[0]? =some us[0]:=List.getElem?_eq_getElem (by omega);have hc0:cs[0]? =some cs[0]:=List.getElem?_eq_getElem (by omega);refine⟨us[0],?_,?_⟩
  ·have:=hc 0 _ hu0;simp[Instr.loadAt,Instr.sureAddr,loadVar,Sem.run_bind,h1];have h0:ad.add 0=ad:=(by simp[Addr.add]);rw[h0]at this;simp[this]
  ·rw[←h];have:AV.mk false (cs.take 1)=cs[0]:=by
    cases cs with
    | nil=>simp at hk
    | cons c r=>rfl
   rw[this];exact hv 0 _ _ hc0 hu0
theorem yN [Gl P] {G:Hp} (hR:Rel P E w G) {a val:AV} {u:Value} {t:TypeId} (ha:VR P E w a u) (h:iG P G t a=some val):
  ∃x,(Instr.loadAt t u).run P w=.ok x w∧VR P E w val x:=by
 unfold iG at h;cases hT:tyI P t with
 | none=>simp[hT]at h
 | some bk=>
  obtain⟨b,k⟩:=bk;have h3:=(jF hT).2.2.1;cases hr:rC G a with
  | none=>simp[hT,hr]at h
  | some cs=>
   simp only[hT,hr]at h;split at h
   ·rename_i hk;obtain⟨ad,rfl,us,hl,hc,hv,hone⟩:=Aw hR ha hr (by omega);injection h with h;exact BH hT hk hl hc hv hone h
   ·simp at h
end
section
variable {P:Program} [Gl P] {E:En} {w w':World} {G:Hp} {nx id b:Nat}
def En.add (E:En) (nx b:Nat):En:= {φ:=fun i=>if i=nx then some b else E.φ i,K:=fun i=>i=nx∨E.K i,W:=fun x=>x=b∨E.W x,F:=E.F,N:=fun i=>i≠nx∧E.N i,o:=fun i=>if i=nx then 0 else E.o i}
structure En.NO (E' E:En):Prop where
 N:E'.N=E.N
 o:E'.o=E.o
theorem En.NO.trans {E E' E'':En} (h:En.NO E'' E') (k:En.NO E' E):En.NO E'' E:=⟨h.N.trans k.N,h.o.trans k.o⟩
theorem Rel.noK (hR:Rel P E w G) (hn:G nx=none):¬E.K nx:=fun h=>by obtain⟨o,ho⟩:=(hR.K nx).1 h;rw[hn]at ho;cases ho
theorem En.tV (hR:Rel P E w G) (hn:G nx=none):En.Le w E (E.add nx w.heap.size):=
 ⟨fun i h=> .inr h,fun i b hK h=>by
  have hne:i≠nx:=fun e=>hR.noK hn (e▸hK);simpa [En.add,hne]using h,fun x hx h=>by
  rcases h with h | h
  ·omega
  ·exact h,rfl,fun _ _ h=>h.2,fun i b hb h=>by
  by_cases hi:i=nx
  ·simp[En.add,hi]at h;omega
  ·simp[En.add,hi]at h;exact⟨i,h⟩,fun i hK=>by
  have hne:i≠nx:=fun e=>hR.noK hn (e▸hK);simp[En.add,hne]⟩
theorem Rel.new (hR:Rel P E w G) (hn:G nx=none) (o:AObj) (hm:o.mut=true) (ob:Obj) (hO:OR P (E.add nx w.heap.size) (w.alloc ob) 0 w.heap.size o):
  Rel P (E.add nx w.heap.size) (w.alloc ob) (G.upd nx o):=by
 have hext:=Ext.alloc E.W w ob;have hle:=En.tV hR hn;have hal:o.alive=true:=(by cases o<;>simp[AObj.mut]at hm<;>rfl);refine⟨fun i j x hi hj=> ?_,fun i x hi=> ?_,fun i x hi=> ?_,fun i o' hi ha=> ?_,fun i=> ?_,fun x=> ?_,fun i x hi hF=> ?_,fun x hF=>Nat.lt_of_lt_of_le (hR.Flt x hF) hext.size,fun w' h'=>hR.good w' (hext.after hle h')⟩
 ·simp only[En.add]at hi hj;split at hi<;>split at hj
  ·simp_all
  ·rename_i h1 h2;have:=hR.lt j x hj;simp at hi;omega
  ·rename_i h1 h2;have:=hR.lt i x hi;simp at hj;omega
  ·exact hR.inj i j x hi hj
 ·simp only[En.add]at hi;by_cases h:i=nx
  ·exact⟨o,by rw[h,Hp.bW],hal⟩
  ·rw[if_neg h]at hi;obtain⟨o',h1,h2⟩:=hR.dom i x hi;exact⟨o',by rw[Hp.upd_ne _ _ h];exact h1,h2⟩
 ·simp only[En.add]at hi;rw[World.size_alloc];split at hi
  ·simp at hi;omega
  ·have:=hR.lt i x hi;omega
 ·by_cases h:i=nx
  ·subst h;rw[Hp.bW]at hi;injection hi with hi;subst hi;have e0:(E.add i w.heap.size).o i=0:=(by simp[En.add]);exact .inl ⟨w.heap.size,by simp[En.add],by rw[e0];exact hO⟩
  ·rw[Hp.upd_ne _ _ h]at hi;rcases hR.obj i o' hi ha with⟨x,hx,ho⟩ | ⟨hN,he⟩
   ·exact .inl ⟨x,by simp[En.add,h,hx],ho.ext hext hle (hle.o i ((hR.K i).2 ⟨_,hi⟩)) (_root_.Go.heap_alloc_old w ob (hR.lt i x hx))⟩
   ·exact .inr ⟨⟨h,hN⟩,he⟩
 ·simp only[En.add];by_cases h:i=nx
  ·subst h;exact⟨fun _=>⟨o,Hp.bW _ _ _⟩,fun _=> .inl rfl⟩
  ·rw[Hp.upd_ne _ _ h];simp[h,hR.K i]
 ·simp only[En.add];constructor
  ·rintro(rfl | h)
   ·exact⟨nx,o,by simp,Hp.bW _ _ _,hm⟩
   ·obtain⟨i,o',h1,h2,h3⟩:=(hR.W x).1 h;have hne:i≠nx:=fun e=>(by rw[e,hn]at h2;cases h2);exact⟨i,o',by simp[hne,h1],by rw[Hp.upd_ne _ _ hne];exact h2,h3⟩
  ·rintro⟨i,o',h1,h2,h3⟩;by_cases h:i=nx
   ·simp[h]at h1;exact .inl h1.symm
   ·rw[if_neg h]at h1;rw[Hp.upd_ne _ _ h]at h2;exact .inr ((hR.W x).2 ⟨i,o',h1,h2,h3⟩)
 ·simp only[En.add]at hi;split at hi
  ·simp at hi;have:=hR.Flt x hF;omega
  ·exact hR.nF i x hi hF
theorem Rel.put (hR:Rel P E w G) {o o':AObj} (hφ:E.φ id=some b) (hG:G id=some o) (hm:o.mut=true) (hm':o'.mut=true) (he:Ext E.W w w') (hoth:∀k,k≠b→w'.heap[k]? =w.heap[k]?) (hO:OR P E w' (E.o id) b o'):
  Rel P E w' (G.upd id o'):=by
 have hal':o'.alive=true:=(by cases o'<;>simp[AObj.mut]at hm'<;>rfl);refine⟨hR.inj,fun i x hi=> ?_,fun i x hi=>Nat.lt_of_lt_of_le (hR.lt i x hi) he.size,fun i o'' hi ha=> ?_,fun i=> ?_,fun x=> ?_,hR.nF,fun x hF=>Nat.lt_of_lt_of_le (hR.Flt x hF) he.size,fun w'' h'=>hR.good w'' (he.after (En.Le.refl _ _) h')⟩
 ·obtain⟨o'',h1,h2⟩:=hR.dom i x hi;by_cases h:i=id
  ·exact⟨o',by rw[h,Hp.bW],hal'⟩
  ·exact⟨o'',by rw[Hp.upd_ne _ _ h];exact h1,h2⟩
 ·by_cases h:i=id
  ·subst h;rw[Hp.bW]at hi;injection hi with hi;subst hi;exact .inl ⟨b,hφ,hO⟩
  ·rw[Hp.upd_ne _ _ h]at hi;rcases hR.obj i o'' hi ha with⟨x,hx,ho⟩ | hN
   ·have hne:x≠b:=fun e=>h (hR.inj i id x hx (by rw[e];exact hφ));exact .inl ⟨x,hx,ho.ext he (En.Le.refl w E) rfl (hoth x hne)⟩
   ·exact .inr hN
 ·by_cases h:i=id
  ·subst h;exact⟨fun _=>⟨o',Hp.bW _ _ _⟩,fun _=>(hR.K i).2 ⟨o,hG⟩⟩
  ·rw[Hp.upd_ne _ _ h];exact hR.K i
 ·rw[hR.W x];constructor
  ·rintro⟨i,o'',h1,h2,h3⟩;by_cases h:i=id
   ·exact⟨i,o',h1,by rw[h,Hp.bW],hm'⟩
   ·exact⟨i,o'',h1,by rw[Hp.upd_ne _ _ h];exact h2,h3⟩
  ·rintro⟨i,o'',h1,h2,h3⟩;by_cases h:i=id
   ·subst h;exact⟨i,o,h1,hG,hm⟩
   ·exact⟨i,o'',h1,by rw[Hp.upd_ne _ _ h]at h2;exact h2,h3⟩
def En.less (E:En) (b:Nat):En:= {E with W:=fun x=>x≠b∧E.W x}
theorem En.Ry (w:World) (E:En) (b:Nat):En.Le w E (E.less b):=⟨fun _ h=>h,fun _ _ _ h=>h,fun _ _ h=>h.2,rfl,fun _ _ h=>h,fun i _ _ h=>⟨i,h⟩,fun _ _=>rfl⟩
theorem Rel.freeze (hR:Rel P E w G) {e:TypeId} {cs:List AV} (hφ:E.φ id=some b) (hG:G id=some (.row e cs)) (hc:cs≠[]):Rel P (E.less b) w (G.upd id (.frz e cs)):=by
 have he:=Ext.refl E.W w;have hle:=En.Ry w E b;refine⟨hR.inj,fun i x hi=> ?_,hR.lt,fun i o'' hi ha=> ?_,fun i=> ?_,fun x=> ?_,hR.nF,hR.Flt,fun w'' h'=>hR.good w'' (he.after hle h')⟩
 ·obtain⟨o'',h1,h2⟩:=hR.dom i x hi;by_cases h:i=id
  ·exact⟨_,by rw[h,Hp.bW],rfl⟩
  ·exact⟨o'',by rw[Hp.upd_ne _ _ h];exact h1,h2⟩
 ·by_cases h:i=id
  ·subst h;rw[Hp.bW]at hi;injection hi with hi;subst hi;obtain⟨x,hx,ho⟩:=hR.FY hG rfl (fun e' he=>by injection he with _ he;exact hc he);rw[hφ]at hx;injection hx with hx;subst hx;exact .inl ⟨b,hφ,OR.ext (o:=.row e cs) he hle rfl rfl ho⟩
  ·rw[Hp.upd_ne _ _ h]at hi;rcases hR.obj i o'' hi ha with⟨x,hx,ho⟩ | hN
   ·exact .inl ⟨x,hx,ho.ext he hle rfl rfl⟩
   ·exact .inr hN
 ·show E.K i↔_;by_cases h:i=id
  ·subst h;exact⟨fun _=>⟨_,Hp.bW _ _ _⟩,fun _=>(hR.K i).2 ⟨_,hG⟩⟩
  ·rw[Hp.upd_ne _ _ h];exact hR.K i
 ·simp only[En.less,hR.W x];constructor
  ·rintro⟨hne,i,o'',h1,h2,h3⟩;have h:i≠id:=fun e=>hne (by rw[e,hφ]at h1;injection h1 with h1;exact h1.symm);exact⟨i,o'',h1,by rw[Hp.upd_ne _ _ h];exact h2,h3⟩
  ·rintro⟨i,o'',h1,h2,h3⟩;by_cases h:i=id
   ·subst h;rw[Hp.bW]at h2;injection h2 with h2;subst h2;simp[AObj.mut]at h3
   ·rw[Hp.upd_ne _ _ h]at h2;exact⟨fun e=>h (hR.inj i id x h1 (by rw[e];exact hφ)),i,o'',h1,h2,h3⟩
theorem run_storeCells_at (g o:Nat) (t:TypeId):∀(vs:List Value) (i:Nat) (cur:List Value) (w:World),w.heap[g]? =some (.cells cur.toArray t (0,0))→o+i+vs.length≤cur.length→(∀v∈vs,v.oneCell'=true)→
  ∃w',(storeCells ⟨g,o,none⟩ vs i).run P w=.ok () w'∧w'.heap[g]? =some (.cells (cur.take (o+i)++vs++cur.drop (o+i+vs.length)).toArray t (0,0))∧(∀k,k≠g→w'.heap[k]? =w.heap[k]?)∧w'.os=w.os∧w'.tape=w.tape∧w'.output=w.output∧w'.heap.size=w.heap.size
 | [],i,cur,w,hg,hl,_=>by
  refine⟨w,rfl,?_,fun _ _=>rfl,rfl,rfl,rfl,rfl⟩;rw[hg];simp
 | v::rest,i,cur,w,hg,hl,h1=>by
  simp only[List.length_cons]at hl;have hi:o+i<cur.length:=(by omega);have hcell:w.cell? ⟨g,o+i,none⟩=some cur[o+i]:=(by rw[eX hg];simp[hi]);have hfro:w.frozen? ⟨g,o+i,none⟩=false:=(by simp[World.frozen?,hg]);have hst:(store ((⟨g,o,none⟩:Addr).add i) v).run P w=.ok () (w.setRow g (cur.set (o+i) v).toArray):=by
   rw[add_lit,run_store P w _ v _ (h1 v (by simp)),hcell];simp[hfro,setCell_eq_setRow w g (o+i) cur.toArray t (0,0) v hg]
  obtain⟨w',h2,h3,h4,h5,h6,h7,h8⟩:=run_storeCells_at g o t rest (i+1) (cur.set (o+i) v) (w.setRow g (cur.set (o+i) v).toArray) (setRow_heap w g _ _ t _ hg) (by simp;omega) (fun x hx=>h1 x (by simp[hx]));refine⟨w',?_,?_,fun k hk=>(h4 k hk).trans (setRow_other w g k _ hk),h5,h6,h7,h8.trans (by simp)⟩
  ·simp only[storeCells,Sem.run_bind,hst,Result.andThen_ok,h2]
  ·rw[h3];congr 3;have e1:o+(i+1)=o+i+1:=(by omega);have e2:o+i+1+rest.length=o+i+(v::rest).length:=(by simp;omega);rw[e1,e2,List.drop_set_of_lt (by simp),List.take_add_one,List.take_set_of_le (by omega),List.getElem?_set_self hi];simp
end
def bJ (P:Program) (G:Hp):AV→Option AV
 | .v x=>some (.v x)
 | .sl n cs=>some (.sl n cs)
 | .row id n=>match G id with
  | some (.row e cs)=>if n*P.cellsOf e≤cs.length then some (.sl n (cs.take (n*P.cellsOf e)))else none
  | some (.frz e cs)=>if n*P.cellsOf e≤cs.length then some (.sl n (cs.take (n*P.cellsOf e)))else none
  | _=>none
 | _=>none
def bT (G:Hp):AV→Hp
 | .row id _=>match G id with
  | some (.row e (c::cs))=>G.upd id (.frz e (c::cs))
  | _=>G
 | _=>G
def bY (P:Program):Hp→List AV→Option (List AV×Hp)
 | G,[]=>some ([],G)
 | G,a::r=>match bJ P G a,bY P (bT G a) r with
  | some t,some (ts,G')=>some (t::ts,G')
  | _,_=>none
def jA (P:Program) (G:Hp) (t:TypeId) (a v:AV):Option Hp:=
 match tyI P t with
 | none=>none
 | some (_,k)=>if v.cells.length=k∧v.cells.all AV.one=true then
   match a with
   | .ptr id off=>match G id with
    | some (.var t0 cs)=>if off+k≤cs.length then some (G.upd id (.var t0 (splice cs off v.cells)))else none
    | _=>none
   | .ea (.row id _) off=>match bY P G v.cells with
    | some (ts,G')=>match G' id with
     | some (.row e cs)=>if off+k≤cs.length then some (G'.upd id (.row e (splice cs off ts)))else none
     | _=>none
    | none=>none
   | _=>none
  else none
section
variable {P:Program} [Gl P] {E:En} {w:World} {G:Hp}
theorem VR.uK (hR:Rel P E w G) {id n:Nat} {u:Value} (h:VR P E w (.row id n) u) {e:TypeId} {cs:List AV} (hG:G id=some (.row e cs)∨G id=some (.frz e cs)) (hlen:n*P.cellsOf e≤cs.length) (M:Nat→Prop) (hM:∀b,M b→E.M b) (hb:∀b,E.φ id=some b→¬M b):TR M w (.sl n (cs.take (n*P.cellsOf e))) u:=by
 have hO:(∃b,E.φ id=some b∧∃us:List Value,w.heap[b]? =some (.cells us.toArray e (0,0))∧E.o id+cs.length≤us.length∧∀(i:Nat) a u,cs[i]? =some a→us[E.o id+i]? =some u→TR E.M w a u)∨(E.N id∧cs=[]):=by
  rcases hG with hG | hG
  ·rcases hR.obj id _ hG rfl with h | ⟨hN,e',he⟩
   ·exact .inl h
   ·injection he with _ he;exact .inr ⟨hN,he⟩
  ·rcases hR.obj id _ hG rfl with h | ⟨hN,e',he⟩
   ·exact .inl h
   ·cases he
 rcases hO with hO | ⟨hN,rfl⟩
 ·obtain⟨b,hφ,us,h3,h4,h5⟩:=hO;obtain⟨cap,e',A,rfl,hn,hm,hs,hA⟩:=h.sQ hφ;by_cases h0:0<(cs.take (n*P.cellsOf e)).length
  ·obtain⟨cap2,e2,hu2,_⟩:=h.CY hφ h3 (by rw[List.length_take]at h0;rw[List.size_toArray];omega);injection hu2 with hu2 _ _;injection hu2 with hu2;subst hu2;generalize E.o id=d at*;refine .sl (us:=(us.drop d).take (n*P.cellsOf e)) hn h0 (hb b hφ) (by rw[List.length_take,List.length_take,List.length_drop];omega) (fun i x hx=> ?_) (fun i c x hc hx=> ?_)
   ·rw[List.getElem?_take]at hx;split at hx
    ·rw[List.getElem?_drop]at hx;rw[add_lit,eX h3];simpa using hx
    ·simp at hx
   ·rw[List.getElem?_take]at hc hx;split at hc
    ·rename_i hi;rw[if_pos hi,List.getElem?_drop]at hx;exact(h5 i c x hc hx).ext (Ext.refl _ _) (fun b _ h=>hM b h)
    ·simp at hc
  ·rw[List.eq_nil_of_length_eq_zero (Nat.le_zero.1 (Nat.not_lt.1 h0))];exact .nil _ hn
 ·obtain⟨rfl,rfl⟩:=h.xA hN;simp only[List.take_nil];exact .nil _ (Nat.le_refl _)
end
section
variable {P:Program} [Gl P] {E:En} {w:World} {G:Hp}
def All2 {α β:Type} (R:α→β→Prop) (xs:List α) (ys:List β):Prop:=ys.length=xs.length∧∀(i:Nat) a b,xs[i]? =some a→ys[i]? =some b→R a b
theorem All2.nil {α β:Type} {R:α→β→Prop} :All2 R [] []:=⟨rfl,fun i a b h=>by simp at h⟩
theorem All2.cons {α β:Type} {R:α→β→Prop} {x:α} {y:β} {xs:List α} {ys:List β} (h:R x y) (hs:All2 R xs ys):All2 R (x::xs) (y::ys):=
 ⟨by simp[hs.1],fun i a b ha hb=>by
  cases i with
  | zero=>simp at ha hb;subst ha;subst hb;exact h
  | succ i=>simp at ha hb;exact hs.2 i a b ha hb⟩
theorem All2.jP {α β:Type} {R:α→β→Prop} {x:α} {xs:List α} {l:List β} (h:All2 R (x::xs) l):∃y ys,l=y::ys∧R x y∧All2 R xs ys:=by
 cases l with
 | nil=>have:=h.1;simp at this
 | cons y ys=>exact⟨y,ys,rfl,h.2 0 x y rfl rfl,by simpa using h.1,fun i a b ha hb=>h.2 (i+1) a b (by simpa using ha) (by simpa using hb)⟩
theorem All2.imp {α β:Type} {R R':α→β→Prop} {xs:List α} {ys:List β} (h:All2 R xs ys) (hi:∀a b,R a b→R' a b):All2 R' xs ys:=⟨h.1,fun i a b ha hb=>hi a b (h.2 i a b ha hb)⟩
theorem All2.app {α β:Type} {R:α→β→Prop} :∀ {xs xs':List α} {ys ys':List β},All2 R xs ys→All2 R xs' ys'→All2 R (xs++xs') (ys++ys')
 | [],_,ys,_,h,h'=>by
  have:ys=[]:=List.eq_nil_of_length_eq_zero (by simpa using h.1);subst this;simpa using h'
 | x::xs,_,ys,_,h,h'=>by
  obtain⟨y,ys,rfl,h1,h2⟩:=h.jP;exact .cons h1 (h2.app h')
theorem All2.take {α β:Type} {R:α→β→Prop} {xs:List α} {ys:List β} (h:All2 R xs ys) (n:Nat):All2 R (xs.take n) (ys.take n):=
 ⟨by rw[List.length_take,List.length_take,h.1],fun i a b ha hb=>by
  rw[List.getElem?_take]at ha hb;split at ha
  ·rename_i hi;rw[if_pos hi]at hb;exact h.2 i a b ha hb
  ·simp at ha⟩
theorem All2.drop {α β:Type} {R:α→β→Prop} {xs:List α} {ys:List β} (h:All2 R xs ys) (n:Nat):All2 R (xs.drop n) (ys.drop n):=
 ⟨by rw[List.length_drop,List.length_drop,h.1],fun i a b ha hb=>by
  rw[List.getElem?_drop]at ha hb;exact h.2 _ a b ha hb⟩
theorem VR.cells2 {a:AV} {u:Value} (ha:a.cells.all AV.one=true) (h:VR P E w a u):All2 (VR P E w) a.cells u.cells.toList∧∀x∈u.cells.toList,x.oneCell'=true:=by
 have one:a.one=true→u.cells.toList=[u]:=fun h1=>by
  have:=h.cells_one h1;cases u<;>first | rfl | (simp[Value.oneCell']at this)
 cases a with
 | agg cs=>
  obtain⟨us,rfl,hl,hv,h1⟩:=h.jO;exact⟨⟨by simpa [Value.cells,AV.cells]using hl,fun i a b ha hb=>hv i a b ha (by simpa [Value.cells]using hb)⟩,fun x hx=>h1 x (by simpa [Value.cells]using hx)⟩
 | any=>simp[AV.cells,AV.one]at ha
 | und=>simp[AV.cells,AV.one]at ha
 | tup vs=>simp[AV.cells,AV.one]at ha
 | _=>
  all_goals
   rw[one (by simpa [AV.cells]using ha)];exact⟨.cons h .nil,fun x hx=>by rw[List.mem_singleton.1 hx];exact h.cells_one (by simpa [AV.cells]using ha)⟩
theorem nR (hR:Rel P E w G) {a t:AV} {u:Value} (h:VR P E w a u) (ht:bJ P G a=some t):
  ∃E',Rel P E' w (bT G a)∧E'.φ=E.φ∧E'.K=E.K∧E'.F=E.F∧En.NO E' E∧(∀b,E'.W b→E.W b)∧TR E'.M w t u:=by
 cases a with
 | v x=>simp[bJ]at ht;subst ht;obtain⟨rfl,h1⟩:=h.iE;exact⟨E,hR,rfl,rfl,rfl,⟨rfl,rfl⟩,fun _ h=>h,.v h1⟩
 | sl n cs=>simp[bJ]at ht;subst ht;exact⟨E,hR,rfl,rfl,rfl,⟨rfl,rfl⟩,fun _ h=>h,h.oQ⟩
 | row id n=>
  simp only[bJ]at ht;cases hG:G id with
  | none=>simp[hG]at ht
  | some o=>
   cases o<;>simp[hG]at ht
   ·rename_i e cs;obtain⟨hl,rfl⟩:=ht;cases cs with
    | nil=>
     refine⟨E,by simpa only[bT,hG]using hR,rfl,rfl,rfl,⟨rfl,rfl⟩,fun _ h=>h,?_⟩;have:=h.uK hR (.inl hG) hl (fun _=>False) (fun _ h=>h.elim) (fun _ _ h=>h);rw[List.take_nil]at this⊢;cases this with
     | nil A hn=>exact .nil A hn
     | sl _ h0=>simp at h0
    | cons c cs=>
     obtain⟨b,hφ,ho⟩:=hR.FY hG rfl (fun e he=>by cases he);refine⟨E.less b,?_,rfl,rfl,rfl,⟨rfl,rfl⟩,fun _ h=>h.2,h.uK hR (.inl hG) hl _ (fun _ h=> ?_) (fun b' hb' hm=> ?_)⟩
     ·simp only[bT,hG];exact hR.freeze hφ hG (by simp)
     ·rcases h with h | h
      ·exact .inl h
      ·exact .inr h.2
     ·rw[hφ]at hb';injection hb' with hb';subst hb';rcases hm with hm | hm
      ·exact hR.nF id b hφ hm
      ·exact hm.1 rfl
   ·rename_i e cs;obtain⟨hl,rfl⟩:=ht;refine⟨E,by simpa only[bT,hG]using hR,rfl,rfl,rfl,⟨rfl,rfl⟩,fun _ h=>h,h.uK hR (.inr hG) hl _ (fun _ h=>h) (fun b' hb' hm=> ?_)⟩;rcases hm with hm | hm
    ·exact hR.nF id b' hb' hm
    ·obtain⟨i,o,h1,h2,h3⟩:=(hR.W b').1 hm;have:=hR.inj i id b' h1 hb';subst this;rw[hG]at h2;injection h2 with h2;subst h2;simp[AObj.mut]at h3
 | _=>simp[bJ]at ht
theorem En.EH {E E':En} (w:World) (hφ:E'.φ=E.φ) (hK:E'.K=E.K) (hF:E'.F=E.F) (hN:En.NO E' E) (hW:∀b,E'.W b→E.W b):En.Le w E E':=
 ⟨fun i h=>by rw[hK];exact h,fun i b _ h=>by rw[hφ]at h;exact h,fun b _ h=>hW b h,hF,fun i _ h=>by rw[hN.N]at h;exact h,fun i b _ h=>⟨i,by rw[hφ]at h;exact h⟩,fun i _=>by rw[hN.o]⟩
theorem l7:∀ {as ts:List AV} {us:List Value} {E:En} {G G':Hp},Rel P E w G→All2 (VR P E w) as us→bY P G as=some (ts,G')→
  ∃E',Rel P E' w G'∧E'.φ=E.φ∧E'.K=E.K∧E'.F=E.F∧En.NO E' E∧(∀b,E'.W b→E.W b)∧All2 (TR E'.M w) ts us∧ts.length=as.length
 | [],ts,us,E,G,G',hR,h,ht=>by
  simp[bY]at ht;obtain⟨rfl,rfl⟩:=ht;have:us=[]:=List.eq_nil_of_length_eq_zero (by simpa using h.1);subst this;exact⟨E,hR,rfl,rfl,rfl,⟨rfl,rfl⟩,fun _ h=>h,.nil,rfl⟩
 | a::as,ts,us,E,G,G',hR,h,ht=>by
  obtain⟨u,us,rfl,h1,h2⟩:=h.jP;simp only[bY]at ht;cases hta:bJ P G a with
  | none=>simp[hta]at ht
  | some t=>
   cases htr:bY P (bT G a) as with
   | none=>simp[hta,htr]at ht
   | some r=>
    obtain⟨ts',G''⟩:=r;simp[hta,htr]at ht;obtain⟨rfl,rfl⟩:=ht;obtain⟨E1,hR1,p1,p2,pF,pN,p3,p4⟩:=nR hR h1 hta;have hle:=En.EH w p1 p2 pF pN p3;obtain⟨E2,hR2,q1,q2,qF,qN,q3,q4,q5⟩:=l7 hR1 (h2.imp fun a b hab=>hab.ext (Ext.refl _ _) hle) htr;have hle2:=En.EH w q1 q2 qF qN q3;exact⟨E2,hR2,q1.trans p1,q2.trans p2,qF.trans pF,qN.trans pN,fun b hb=>p3 b (q3 b hb),.cons (p4.ext (Ext.refl _ _) hle2.M) q4,by simp[q5]⟩
theorem oP {w w':World} {b:Nat} {us us':Array Value} {t:TypeId} {fr fr':Nat×Nat} (h:w.heap[b]? =some (.cells us t fr)) (h':w'.heap[b]? =some (.cells us' t fr')) (hl:us'.size=us.size):w'.shape? b=w.shape? b:=by
 simp[World.shape?,h,h',hl]
theorem EF (hR:Rel P E w G) {a v:AV} {ua uv:Value} {t:TypeId} {G':Hp} (ha:VR P E w a ua) (hv:VR P E w v uv) (h:jA P G t a v=some G'):
  ∃w' E',(Instr.storeAt t ua uv).run P w=.ok () w'∧Rel P E' w' G'∧Ext E.W w w'∧En.Le w E E':=by
 unfold jA at h;cases hT:tyI P t with
 | none=>simp[hT]at h
 | some bk=>
  obtain⟨bb,k⟩:=bk;obtain⟨_,s2,s3,_,_,s6,_⟩:=jF hT;simp only[hT]at h;split at h
  ·rename_i hc;obtain⟨hk,hone⟩:=hc;obtain⟨hcells,hones⟩:=hv.cells2 hone;have hsz:uv.cells.size=k:=(by have:=hcells.1;rw[Array.length_toList]at this;omega);have mach:∀(b off:Nat) (cur:List Value) (te:TypeId),w.heap[b]? =some (.cells cur.toArray te (0,0))→off+k≤cur.length→E.W b→
     ∃w',(Instr.storeAt t (.pointer (some ⟨b,off,none⟩)) uv).run P w=.ok () w'∧w'.heap[b]? =some (.cells (cur.take off++uv.cells.toList++cur.drop (off+k)).toArray te (0,0))∧(∀x,x≠b→w'.heap[x]? =w.heap[x]?)∧Ext E.W w w':=by
    intro b off cur te hg hl hM;obtain⟨w',h1,h2,h3,h4,h5,h6,h7⟩:=run_storeCells_at (P:=P) b off te uv.cells.toList 0 cur w hg (by rw[Array.length_toList,hsz];omega) hones;refine⟨w',?_,?_,h3,⟨h4,h5,h6,Nat.le_of_eq h7.symm,fun x hx hm=>h3 x (fun e=>hm (e▸hM)),fun x hx=> ?_⟩⟩
    ·simp[Instr.storeAt,Instr.sureAddr,storeVar,s2,hsz,h1]
    ·rw[h2];simp[hsz]
    ·by_cases hxb:x=b
     ·subst hxb;refine oP hg h2 ?_;simp[hsz];omega
     ·exact iF (h3 x hxb)
   cases a with
   | ptr id off=>
    simp only at h;cases hG:G id with
    | none=>simp[hG]at h
    | some o=>
     cases o<;>simp[hG]at h;rename_i t0 cs;obtain⟨hoff,rfl⟩:=h;obtain⟨b,hφ,us,g1,g2,g3,g4,gd⟩:=hR.FY hG rfl (fun e he=>by cases he);obtain rfl:=ha.zK hφ;have hM:E.W b:=(hR.W b).2 ⟨id,_,hφ,hG,rfl⟩;obtain⟨w',h1,h2,h3,h4⟩:=mach b off us t0 g1 (by omega) hM;refine⟨w',E,h1,hR.put hφ hG rfl rfl h4 h3 ⟨_,h2,?_,?_,?_,gd⟩,h4,En.Le.refl w E⟩
     ·simp[splice,hsz,hk,g2]
     ·intro x hx;simp only[List.mem_append]at hx;rcases hx with(hx | hx) | hx
      ·exact g3 x (List.mem_of_mem_take hx)
      ·exact hones x hx
      ·exact g3 x (List.mem_of_mem_drop hx)
     ·have hall:All2 (VR P E w) cs us:=⟨g2,g4⟩;have:=((hall.take off).app hcells).app (hall.drop (off+k));rw[←hk]at this⊢;intro i a u hi hu;exact(this.2 i a u hi hu).ext h4 (En.Le.refl w E)
   | ea base off=>
    cases base with
    | row id n=>
     simp only at h;cases ht:bY P G v.cells with
     | none=>simp[ht]at h
     | some r=>
      obtain⟨ts,G1⟩:=r;simp only[ht]at h;obtain⟨E1,hR1,p1,p2,pF,pN,p3,p4,p5⟩:=l7 hR hcells ht;have hle:=En.EH w p1 p2 pF pN p3;have hk0:0<k:=s3;cases hG:G1 id with
      | none=>simp[hG]at h
      | some o=>
       cases o<;>simp[hG]at h;rename_i e cs;obtain⟨hoff,rfl⟩:=h;obtain⟨b,hφ,us,g1,g2,g4⟩:=hR1.FY hG rfl (fun e' he=>by injection he with _ he;subst he;simp at hoff;omega);have hφ0:E.φ id=some b:=(by rw[←p1];exact hφ);obtain⟨u0,q1,q2⟩:=ha.LG;obtain⟨cap,e',rfl,_,_,_⟩:=q1.CY hφ0 g1 (by rw[←pN.o,List.size_toArray];omega);obtain rfl:=q2 _ _ _ rfl;rw[add_lit,←pN.o];generalize hd:E1.o id=d at g2 g4⊢;have hM1:E1.W b:=(hR1.W b).2 ⟨id,_,hφ,hG,rfl⟩;obtain⟨w',h1,h2,h3,h4⟩:=mach b (d+off) us e g1 (by omega) (p3 b hM1);have h4':Ext E1.W w w':=⟨h4.os,h4.tape,h4.output,h4.size,fun x hx hm=>h3 x (fun e=>hm (e▸hM1)),h4.shape⟩;have hts:ts.length=k:=(by rw[p5,hk]);have hsl:(splice cs off ts).length=cs.length:=(by simp[splice,hts];omega);refine⟨w',E1,h1,hR1.put hφ hG rfl rfl h4' h3 ⟨_,h2,?_,?_⟩,h4,hle⟩
       ·rw[hd,hsl];simp[hsz];omega
       ·intro i a u hi hu;rw[hd]at hu;have hlt:i<(splice cs off ts).length:=(List.getElem?_eq_some_iff.1 hi).1;have hall:All2 (TR E1.M w) cs ((us.drop d).take cs.length):=⟨by rw[List.length_take,List.length_drop];omega,fun i a u ha hu=>by
         rw[List.getElem?_take]at hu;split at hu
         ·rw[List.getElem?_drop]at hu;exact g4 i a u ha hu
         ·simp at hu⟩
        have h5:=((hall.take off).app p4).app (hall.drop (off+k));have e1:splice cs off ts=cs.take off++ts++cs.drop (off+k):=(by simp[splice,hts]);rw[e1]at hi hlt;refine(h5.2 i a u hi ?_).ext h4'.toM (fun _ _ h=>h);have hlen:(cs.take off++ts++cs.drop (off+k)).length=cs.length:=(by simp[hts];omega);rw[←hu];have hU:(us.take (d+off)++uv.cells.toList++us.drop (d+off+k)).drop d=(us.drop d).take off++uv.cells.toList++(us.drop d).drop (off+k):=by
         have e1:us.take (d+off)=us.take d++(us.drop d).take off:=List.take_add;have e2:us.drop (d+off+k)=(us.drop d).drop (off+k):=(by rw[List.drop_drop];congr 1;omega);rw[e1,e2,List.append_assoc,List.append_assoc,List.drop_left' (by rw[List.length_take];omega),List.append_assoc]
        have hX:cs.length≤(us.drop d).length:=(by rw[List.length_drop];omega);have hu':(us.take (d+off)++uv.cells.toList++us.drop (d+off+k))[d+i]? =((us.drop d).take off++uv.cells.toList++(us.drop d).drop (off+k))[i]? :=(by rw[←hU,List.getElem?_drop]);rw[hu'];generalize us.drop d=X at*;have hpre:((X.take cs.length).take off++uv.cells.toList++(X.take cs.length).drop (off+k))=(X.take off++uv.cells.toList++X.drop (off+k)).take cs.length:=by
         rw[List.take_append,List.take_append,List.take_take,List.take_take,List.drop_take];simp only[List.length_append,List.length_take,Array.length_toList,hsz];rw[Nat.min_eq_left (by omega),Nat.min_eq_right (by omega)];congr 2
         ·rw[List.take_of_length_le (by rw[Array.length_toList,hsz];omega)]
         ·congr 1;omega
        rw[hpre,List.getElem?_take,if_pos (by omega)]
    | _=>simp at h
   | _=>simp at h
  ·simp at h
end
def evX (s:Sl):Operand→AV
 | .tmp t=>s t
 | .const x=>if x.oneCell'=true then .v x else .any
 | .func f=> .fn f []
 | .global _=> .any
def Kq (P:Program) (t:TypeId) (xs:Array Value) (off:Nat):Option Value:=
 match tyI P t with
 | some (true,k)=>some (.agg (xs.extract off (off+k)))
 | some (false,_)=>xs[off]?
 | none=>none
def eqV (P:Program):Nat→TypeId→Value→Value→Option Bool
 | 0,_,_,_=>none
 | d+1,t,x,y=>match P.underlying t with
  | some (.int _)=>match x,y with
   | .int k a,.int k' b=>if k=k' then some (a==b)else none
   | _,_=>none
  | some .bool=>match x,y with
   | .bool a,.bool b=>some (a==b)
   | _,_=>none
  | some .string=>match x,y with
   | .string a,.string b=>some (a.toList==b.toList)
   | _,_=>none
  | some (.struct fs)=>match x,y with
   | .agg xs,.agg ys=>if P.stoodInHeld t=false then
     fs.toList.foldr (fun f acc=>match acc with
      | none=>none
      | some r=>if f.name= "_"then none else match Kq P f.type xs f.offset,Kq P f.type ys f.offset with
       | some a,some b=>match eqV P d f.type a b with
        | some q=>some (q&&r)
        | none=>none
       | _,_=>none) (some true)
    else none
   | _,_=>none
  | _=>none
def iZ (P:Program) (op:BinOp) (t:TypeId) (x y:Value):Option Value:=
 match x,y with
 | .int k a,.int k' b=>if k=k' then
   match op with
   | .add=>some (.int k (k.wrap (a+b)))
   | .sub=>some (.int k (k.wrap (a-b)))
   | .mul=>some (.int k (k.wrap (a*b)))
   | .quo=>if b=0 then none else some (.int k (k.wrap (a.tdiv b)))
   | .rem=>if b=0 then none else some (.int k (a.tmod b))
   | .and=>some (.int k (bits .and k a b))
   | .or=>some (.int k (bits .or k a b))
   | .xor=>some (.int k (bits .xor k a b))
   | .eql=>some (.bool (a==b))
   | .neq=>some (.bool (a !=b))
   | .lss=>some (.bool (decide (a<b)))
   | .leq=>some (.bool (decide (a≤b)))
   | .gtr=>some (.bool (decide (a>b)))
   | .geq=>some (.bool (decide (a≥b)))
   | _=>none
  else none
 | .string a,.string b=>
   match op with
   | .add=>if a.size+b.size≤9223372036854775807 then some (.string (a++b))else none
   | .eql=>some (.bool (a.toList==b.toList))
   | .neq=>some (.bool (!(a.toList==b.toList)))
   | .lss=>some (.bool (Op.bytesLess a.toList b.toList))
   | .leq=>some (.bool (Op.bytesLess a.toList b.toList || a.toList==b.toList))
   | .gtr=>some (.bool (!(Op.bytesLess a.toList b.toList || a.toList==b.toList)))
   | .geq=>some (.bool (!(Op.bytesLess a.toList b.toList)))
   | _=>none
 | .bool a,.bool b=>match P.underlying t with
   | some .bool=>match op with
    | .eql=>some (.bool (a==b))
    | .neq=>some (.bool (!(a==b)))
    | _=>none
   | _=>none
 | .agg xs,.agg ys=>if P.eqGuardType P.depth t=false then
   match op with
   | .eql=>(eqV P 20 t (.agg xs) (.agg ys)).map .bool
   | .neq=>(eqV P 20 t (.agg xs) (.agg ys)).map fun r=> .bool (!r)
   | _=>none
  else none
 | .slice none 0 0,.slice none 0 0=>match P.underlying t,op with
  | some (.slice _),.eql=>some (.bool true)
  | some (.slice _),.neq=>some (.bool false)
  | _,_=>none
 | _,_=>none
def SL (op:UnOp) (x:Value):Option Value:=
 match op,x with
 | .neg,.int k n=>some (.int k (k.wrap (0-n)))
 | .not,.bool b=>some (.bool !b)
 | _,_=>none
section
variable {P:Program} [Gl P] {E:En} {w:World} {G:Hp}
theorem su {t:TypeId} {xs:Array Value} {off:Nat} {v:Value} (h:Kq P t xs off=some v):(part t xs off).run P w=.ok v w:=by
 unfold Kq at h;cases hT:tyI P t with
 | none=>simp[hT]at h
 | some bk=>
  obtain⟨b,k⟩:=bk;obtain⟨h1,h2,_⟩:=jF hT;cases b with
  | true=>simp[hT]at h;subst h;simp[part,h1,h2]
  | false=>simp[hT]at h;simp[part,h1,h]
theorem vP:∀(d D:Nat) (t:TypeId) (x y:Value) (r:Bool),d≤D→eqV P d t x y=some r→(Op.equalIn D t x y).run P w=.ok r w
 | 0,_,_,_,_,_,_,h=>by simp[eqV]at h
 | d+1,0,_,_,_,_,hd,_=>by omega
 | d+1,D+1,t,x,y,r,hd,h=>by
  rw[eqV.eq_def]at h;dsimp only at h;cases hu:P.underlying t with
  | none=>simp[hu]at h
  | some ds=>
   cases ds with
   | int k0=>
    rw[hu]at h;dsimp only at h;split at h
    ·split at h
     ·rename_i hk;subst hk;injection h with h;subst h;exact run_equalIn_int w D t _ _ _ _ hu
     ·simp at h
    ·simp at h
   | bool=>
    rw[hu]at h;dsimp only at h;split at h
    ·injection h with h;subst h;exact run_equalIn_bool' w D t _ _ hu
    ·simp at h
   | string=>
    rw[hu]at h;dsimp only at h;split at h
    ·injection h with h;subst h;exact run_equalIn_string w D t _ _ hu
    ·simp at h
   | struct fs=>
    rw[hu]at h;dsimp only at h;split at h
    ·rename_i xs ys;split at h
     ·rename_i hst;have hf:P.fieldsOf t=fs:=(by simp[Program.fieldsOf,hu]);rw[run_equalIn_struct w D t xs ys (by rw[hf];exact hu) hst,hf];generalize fs.toList=l at h;induction l generalizing r with
      | nil=>simp at h;subst h;simp[Op.eqFields]
      | cons f l ih=>
       simp only[List.foldr_cons]at h;split at h
       ·simp at h
       ·rename_i r' hr';split at h
        ·simp at h
        ·rename_i hn;split at h
         ·rename_i a b ha hb;split at h
          ·rename_i q hq;injection h with h;have h1:=su (w:=w) ha;have h2:=su (w:=w) hb;have h3:=vP d D f.type a b q (by omega) hq;have h4:=ih r' hr';simp only[Op.eqFields,if_pos hn,Sem.run_bind,h1,h2,h3,Result.andThen_ok];cases q
           ·simp at h;subst h;simp
           ·simp at h;subst h;simpa using h4
          ·simp at h
         ·simp at h
     ·simp at h
    ·simp at h
   | _=>simp[hu]at h
theorem SV {cs:List AV} {us:List Value} {xs:List Value} (h:All2 (VR P E w) cs us) (hc:cs.mapM MJ=some xs):us=xs:=by
 induction cs generalizing us xs with
 | nil=>
  simp at hc;subst hc;exact List.eq_nil_of_length_eq_zero (by simpa using h.1)
 | cons c cs ih=>
  obtain⟨u,us,rfl,h1,h2⟩:=h.jP;simp only[List.mapM_cons,Option.bind_eq_bind,Option.bind_eq_some_iff,Option.pure_def]at hc;obtain⟨x,hx,xs',hxs,he⟩:=hc;injection he with he;subst he;rw[ih h2 hxs];cases c with
  | v y=>simp[MJ]at hx;subst hx;rw[h1.iE.1]
  | _=>simp[MJ]at hx
theorem lD {a:AV} {u x:Value} (h:VR P E w a u) (hc:zf a=some x):u=x:=by
 cases a with
 | v y=>simp[zf]at hc;subst hc;exact h.iE.1
 | agg cs=>
  obtain⟨us,rfl,hl,hv,_⟩:=h.jO;simp only[zf]at hc;cases hm:cs.mapM MJ with
  | none=>simp[hm]at hc
  | some xs=>
   simp[hm]at hc;subst hc;rw[SV ⟨hl,hv⟩ hm]
 | _=>simp[zf]at hc
theorem Kv {op:BinOp} {t:TypeId} {x y:Operand} {a b r:Value} (h:iZ P op t a b=some r):((do eqGuard op t x y a b;binOp op t a b:Sem Value)).run P w=.ok r w:=by
 unfold iZ at h;split at h
 ·split at h
  ·rename_i k hk;subst hk;cases op<;>dsimp only at h<;>first
    | (injection h with h;subst h;simp[eqGuard,binOp,Op.intArith,Op.intCmp,Op.intBits,Go.bits];done)
    | (split at h
       ·simp at h
       ·rename_i hb;injection h with h;subst h;simp[eqGuard,binOp,Op.intDiv,hb])
    | simp at h
  ·simp at h
 ·rename_i a b;cases op<;>dsimp only at h<;>first
   | (injection h with h;subst h;simp[eqGuard,binOp,Op.stringOp];done)
   | (split at h
      ·rename_i hl;injection h with h;subst h;have hm:IntKind.i64.max=9223372036854775807:=(by decide);simp[eqGuard,binOp,Op.stringOp,hm];omega
      ·simp at h)
   | simp at h
 ·rename_i a b;split at h
  ·rename_i hu;cases op<;>dsimp only at h<;>first
    | (injection h with h;subst h;simp[eqGuard,run_eql_bool w t a b hu,run_neq_bool w t a b hu];done)
    | simp at h
  ·simp at h
 ·rename_i xs ys;split at h
  ·rename_i hg;cases op<;>dsimp only at h<;>first
    | simp at h;done
    | (cases he:eqV P 20 t (.agg xs) (.agg ys)with
       | none=>simp[he]at h
       | some q=>
        simp[he]at h;subst h;simp only[Sem.run_bind,run_eqGuard_agg w _ t x y xs ys hg,Result.andThen_ok,run_eql_struct,run_neq_struct,vP 20 10000 t _ _ q (by omega) he])
  ·simp at h
 ·split at h
  ·rename_i e hu;injection h with h;subst h;rw[Sem.run_bind];simp[eqGuard,binOp,run_equal_slice_nil w t e none 0 0 hu]
  ·rename_i e hu;injection h with h;subst h;rw[Sem.run_bind];simp[eqGuard,run_neq_slice_nil w t e none 0 0 hu]
  ·simp at h
 ·simp at h
theorem PG {op:UnOp} {x r:Value} (h:SL op x=some r):(Op.unary op x).run P w=.ok r w:=by
 unfold SL at h;split at h
 ·injection h with h;subst h;simp[Op.unary,Op.intArith]
 ·injection h with h;subst h;simp[Op.unary]
 ·simp at h
end
def isStr (P:Program) (t:TypeId):Bool:=match P.underlying t with
 | some .string=>true
 | _=>false
theorem rQ {P:Program} {t:TypeId} (h:isStr P t=true):P.underlying t=some .string:=by
 unfold isStr at h;split at h
 ·assumption
 ·simp at h
def adr (G:Hp) (a:AV):Bool:=match rC G a with
 | some (_::_)=>true
 | _=>false
def kY (P:Program) (s:Sl) (t:TypeId):List AV→List (Nat×Operand)→Option (List AV)
 | cs,[]=>some cs
 | cs,(i,x)::r=>match flI P t i with
  | some (off,_,k)=>if(evX s x).cells.length=k∧off+k≤cs.length∧(evX s x).cells.all AV.one=true then kY P s t (splice cs off (evX s x).cells) r else none
  | none=>none
def lenOf:AV→Option Nat
 | .sl n _=>some n
 | .row _ n=>some n
 | .v (.slice none 0 0)=>some 0
 | _=>none
def fA (P:Program) (G:Hp) (t:TypeId) (x i:AV):Option AV:=
 match elI P t,i with
 | some (_,k,_,_),.v (.int _ n)=>match x with
  | .sl m cs=>if 0≤n∧n<m∧0<cs.length then some (.ea x (n.toNat*k))else none
  | .row id m=>match G id with
   | some o=>if 0≤n∧n<m∧o.alive=true then some (.ea x (n.toNat*k))else none
   | none=>none
  | _=>none
 | _,_=>none
def bnd (s:Sl) (d:Nat):Option Operand→Option Nat
 | none=>some d
 | some x=>match evX s x with
  | .v (.int _ n)=>if 0≤n then some n.toNat else none
  | _=>none
def eH (P:Program) (G:Hp) (t:TypeId) (x:AV) (lo hi:Nat→Option Nat):Option (AV×Hp):=
 match x with
 | .v (.string b)=>match lo 0,hi b.size with
  | some l,some h=>if isStr P t=true∧l≤h∧h≤b.size then some (.v (.string (b.extract l h)),G)else none
  | _,_=>none
 | _=>match elI P t,bJ P G x with
  | some (_,k,_,_),some (.sl n cs)=>match lo 0,hi n with
   | some l,some h=>if l≤h∧h≤n∧cs.length=n*k then some (.sl (h-l) ((cs.drop (l*k)).take ((h-l)*k)),bT G x)else none
   | _,_=>none
  | _,_=>none
def Jk (P:Program) (G:Hp) (t:TypeId) (x:AV) (hi:Nat→Option Nat):Option (AV×Hp):=
 match x with
 | .row id n=>match G id,elI P t,hi n with
  | some (.row e' cs),some (e,k,_,_),some h=>if e'=e∧h≤n∧cs.length=n*k then some (.row id h,G.upd id (.row e' (cs.take (h*k))))else none
  | _,_,_=>none
 | _=>none
def lI (G:Hp):Option Nat→Hp
 | none=>G
 | some id=>G.upd id .dead
def yx (P:Program) (G:Hp) (nx:Nat) (t:TypeId) (x:AV) (lo:Nat→Option Nat):Option (AV×Hp×Nat):=
 match x with
 | .row id n=>match G id,elI P t,lo 0 with
  | some (.row e' cs),some (e,k,_,_),some l=>if e'=e∧l≤n∧cs.length=n*k then some (.row nx (n-l),(lI G (some id)).upd nx (.row e (cs.drop (l*k))),nx+1)else none
  | _,_,_=>none
 | _=>none
def Fj (P:Program) [Gl P] (t:TypeId) (lo hi:Option Operand):Bool:=Gl.shr P t&&(lo.isSome&&hi.isNone)
def plI (P:Program) (t:TypeId):Option (List (Nat×Nat)):=
 match P.underlying t with
 | some (.struct fs)=>fs.toList.mapM (fun f=>(P.info? f.type).map fun i=>(f.offset,i.size))
 | _=>none
theorem Qd {P:Program} {t:TypeId} {pl:List (Nat×Nat)} (h:plI P t=some pl):∃fs,P.underlying t=some (.struct fs)∧fs.toList.mapM (fun f=>(P.info? f.type).map fun i=>(f.offset,i.size))=some pl:=by
 unfold plI at h;split at h
 ·exact⟨_,by assumption,h⟩
 ·simp at h
def isFn:AV→Bool
 | .fn _ _=>true
 | _=>false
def tN (P:Program) [Gl P] (t:TypeId):Operand→Option AV
 | .global g=>match tyI P t,Gl.glob P g with
  | some (b,k),some vs=>if k≤vs.length then some (.mk b ((vs.map AV.v).take k))else none
  | _,_=>none
 | _=>none
def arI (P:Program) (t:TypeId):Option (Nat×Bool×Nat):=match P.underlying t with
 | some (.array n e)=>match tyI P e with
  | some (b,k)=>some (n,b,k)
  | none=>none
 | _=>none
def iq (P:Program) [Gl P] (s:Sl) (G:Hp) (nx:Nat):Op→Option (AV×Hp×Nat)
 | .move x=>some (evX s x,G,nx)
 | .assign x=>some (evX s x,G,nx)
 | .pick c a b=>match evX s c with
  | .v (.bool t)=>some (if t=true then evX s a else evX s b,G,nx)
  | _=>none
 | .alloc t=>match zrI P t with
  | some z=>some (.ptr nx 0,G.upd nx (.var t (z.map .v)),nx+1)
  | none=>none
 | .box t x=>if(evX s x).cells.all AV.one=true then some (.ptr nx 0,G.upd nx (.var t (evX s x).cells),nx+1)else none
 | .build t ps=>match zrI P t,plI P t with
  | some z,some _=>match kY P s t (z.map .v) ps.toList with
   | some cs=>some (.agg cs,G,nx)
   | none=>none
  | _,_=>none
 | .buildSlice t n ps=>match elI P t with
  | some (e,k,_,_)=>if ps.toList.map (·.1)=List.range n∧n*k≤16777216∧n≤16777216∧ps.toList.all (fun p=>decide ((evX s p.2).cells.length=k)&&(evX s p.2).cells.all AV.one)=true then
    match bY P G (ps.toList.flatMap fun p=>(evX s p.2).cells)with
    | some (ts,G')=>some (.row nx n,G'.upd nx (.row e ts),nx+1)
    | none=>if(ps.toList.flatMap fun p=>(evX s p.2).cells).any isFn=true∧0<n*k then some (.row nx n,G.upd nx (.var e (ps.toList.flatMap fun p=>(evX s p.2).cells)),nx+1)else none
   else none
  | none=>none
 | .load t a=>(match tN P t a with
  | some v=>some v
  | none=>iG P G t (evX s a)).map fun v=>(v,G,nx)
 | .store t a v=>(jA P G t (evX s a) (evX s v)).map fun G'=>(.any,G',nx)
 | .nilCheck x=>if adr G (evX s x)=true then some (evX s x,G,nx)else match evX s x with
  | .fn f cs=>some (.fn f cs,G,nx)
  | _=>none
 | .binOp op t x y _=>match zf (evX s x),zf (evX s y)with
  | some a,some b=>(iZ P op t a b).map fun r=>(.v r,G,nx)
  | _,_=>none
 | .unOp op _ x=>match zf (evX s x)with
  | some a=>(SL op a).map fun r=>(.v r,G,nx)
  | none=>none
 | .convert src dst x=>match evX s x with
  | .v (.int _ n)=>match P.underlying src,P.underlying dst with
   | some _,some (.int k)=>some (.v (.int k (k.wrap n)),G,nx)
   | _,_=>none
  | .v (.string b)=>match P.underlying src,P.underlying dst with
   | some .string,some .string=>some (.v (.string b),G,nx)
   | _,_=>none
  | _=>none
 | .makeFunc (.func f) first caps=>if first= #[]then some (.fn f (caps.toList.map (evX s)),G,nx)else if caps= #[]then some (.mt f (first.toList.map (evX s)),G,nx)else none
 | .fieldAddr t x f=>match flI P t f with
  | some (off,_,_)=>if adr G (evX s x)=true then
    match evX s x with
    | .ptr id o=>some (.ptr id (o+off),G,nx)
    | .ea b o=>some (.ea b (o+off),G,nx)
    | .cp cs o=>some (.cp cs (o+off),G,nx)
    | _=>none
   else none
  | none=>none
 | .field t x f=>match flI P t f,evX s x with
  | some (off,b,k),.agg cs=>if off+k≤cs.length then some (.mk b ((cs.drop off).take k),G,nx)else none
  | _,_=>none
 | .indexAddr t x i=>(fA P G t (evX s x) (evX s i)).map fun v=>(v,G,nx)
 | .index t x i=>match evX s x,evX s i with
  | .agg cs,.v (.int _ n)=>match arI P t with
   | some (m,b,k)=>if 0≤n∧n<m∧n.toNat*k+k≤cs.length then some (.mk b ((cs.drop (n.toNat*k)).take k),G,nx)else none
   | none=>none
  | .v (.string b),.v (.int _ n)=>if h:0≤n∧n.toNat<b.size then(if isStr P t=true then some (.v (.int .u8 (b[n.toNat]'h.2).toNat),G,nx)else none)else none
  | _,_=>none
 | .slice t x lo hi none=>if Fj P t lo hi=true then yx P G nx t (evX s x) (fun d=>bnd s d lo)else(if(Gl.shr P t&&lo.isNone)=true then Jk P G t (evX s x) (fun d=>bnd s d hi)else eH P G t (evX s x) (fun d=>bnd s d lo) (fun d=>bnd s d hi)).map fun r=>(r.1,r.2,nx)
 | .extract x i=>match evX s x with
  | .tup vs=>match vs[i]? with
   | some v=>some (v,G,nx)
   | none=>none
  | _=>none
 | _=>none
def Out (P:Program) [Gl P] (E:En) (w:World) (r:Result Next) (val:AV) (G':Hp):Prop:=
 ∃w' E' u,(r=.ok (.value u) w'∨(r=.ok .skip w'∧u=undef))∧VR P E' w' val u∧Rel P E' w' G'∧Ext E.W w w'∧En.Le w E E'
section
variable {P:Program} [Gl P] {E:En} {w:World} {G:Hp} {s:Sl} {ρ:Operand→Value}
theorem Out.same (hR:Rel P E w G) {val:AV} {u:Value} {r:Sem Value} (h:r.run P w=.ok u w) (hv:VR P E w val u):Out P E w ((do pure (.value (←r)):Sem Next).run P w) val G:=
 ⟨w,E,u,.inl (by simp[h]),hv,hR,Ext.refl _ _,En.Le.refl _ _⟩
theorem jH {a:Act} (h:∀t,VR P E w (s t) (a.tmps.getD t undef)) (x:Operand):VR P E w (evX s x) (a.eval x):=by
 cases x with
 | tmp t=>exact h t
 | const v=>
  simp only[evX,Act.eval];split
  ·rename_i hv;exact .tree (.v hv)
  ·exact .any _
 | func f=>exact .fn (us:=[]) rfl (fun i a u h=>by simp at h)
 | global g=>exact .any _
theorem Dz (hR:Rel P E w G) {a:AV} {u:Value} (ha:VR P E w a u) (h:adr G a=true):∃ad,u=.pointer (some ad):=by
 unfold adr at h;split at h
 ·rename_i hr;obtain⟨ad,h1,_⟩:=Aw hR ha hr (by simp);exact⟨ad,h1⟩
 ·simp at h
theorem zC {t:TypeId} {f off k:Nat} {b:Bool} (h:flI P t f=some (off,b,k)):∃fs fd,P.underlying t=some (.struct fs)∧fs[f]? =some fd∧fd.offset=off∧tyI P fd.type=some (b,k):=by
 unfold flI at h;split at h
 ·rename_i fs hu;split at h
  ·rename_i fd hf;split at h
   ·rename_i b' k' ht;simp only[Option.some.injEq,Prod.mk.injEq]at h;obtain⟨rfl,rfl,rfl⟩:=h;exact⟨fs,fd,hu,hf,rfl,ht⟩
   ·simp at h
  ·simp at h
 ·simp at h
theorem lY {t:TypeId} {f off k:Nat} {b:Bool} (h:flI P t f=some (off,b,k)) (ad:Addr):(Instr.fieldAt t (.pointer (some ad)) f).run P w=.ok (.pointer (some (ad.add off))) w:=by
 obtain⟨fs,fd,hu,hf,rfl,ht⟩:=zC h;obtain⟨_,h2,h3,_⟩:=jF ht;have:k≠0:=(by omega);simp[Instr.fieldAt,run_underlying hu,hf,Instr.sureAddr,fieldPlace,h2,this]
theorem VR.Ro {id o off:Nat} {ad:Addr} (h:VR P E w (.ptr id o) (.pointer (some ad))):VR P E w (.ptr id (o+off)) (.pointer (some (ad.add off))):=by
 cases h with
 | tree h=>cases h
 | ptr hK h1 h=>
  refine .ptr hK rfl (fun b hb=> ?_);have:=h b hb;injection this with this;injection this with this;rw[this,add_lit]
theorem VR.TP {base:AV} {o off:Nat} {ad:Addr} (h:VR P E w (.ea base o) (.pointer (some ad))):VR P E w (.ea base (o+off)) (.pointer (some (ad.add off))):=by
 cases h with
 | tree h=>cases h
 | ea h0 h1 h=>
  refine .ea h0 rfl (fun ad' n cap e=> ?_);have:=h ad' n cap e;injection this with this;injection this with this;rw[this,add_add]
theorem VR.TJ {cs:List AV} {o off:Nat} {ad:Addr} (h:VR P E w (.cp cs o) (.pointer (some ad))):VR P E w (.cp cs (o+off)) (.pointer (some (ad.add off))):=by
 generalize hu:Value.pointer (some ad)=u at h;cases h with
 | tree h=>cases h
 | @cp _ us ad0 _ hb hl h0 hc hr=>
  injection hu with hu;injection hu with hu;rw[hu,add_add];exact .cp hb hl h0 hc hr
theorem Ig {t:TypeId} {z:List Value} (h:zrI P t=some z):∃v:Value,(∀w,(zeroValue t).run P w=.ok v w)∧v.cells.toList=z∧(∀x∈z,x.oneCell'=true)∧(P.info? t).bind (·.zero)=some v:=by
 unfold zrI at h;split at h
 ·rename_i i hi;split at h
  ·rename_i v hv;split at h
   ·rename_i ho;injection h with h;refine⟨v,fun w=>by simp[zeroValue,typeInfo,hi,hv],h,fun x hx=> ?_,by simp[hi,hv]⟩;rw[←h]at hx;exact(Array.all_eq_true_iff_forall_mem.1 ho) x (by simpa using hx)
   ·simp at h
  ·simp at h
 ·simp at h
theorem Et {z:List Value} (h:∀x∈z,x.oneCell'=true):All2 (VR P E w) (z.map .v) z:=
 ⟨by simp,fun i a b ha hb=>by
  rw[List.getElem?_map,hb]at ha;simp at ha;subst ha;exact .tree (.v (h b (List.mem_of_getElem? hb)))⟩
theorem All2.ext {E':En} {w':World} {as:List AV} {us:List Value} (h:All2 (VR P E w) as us) (he:Ext E.W w w') (hE:En.Le w E E'):All2 (VR P E' w') as us:=h.imp fun _ _ hab=>hab.ext he hE
theorem BG (hR:Rel P E w G) {nx:Nat} (hn:G nx=none) {t:TypeId} {cs:List AV} {us:List Value} (h:All2 (VR P E w) cs us) (h1:∀u∈us,u.oneCell'=true):
  ∃E',VR P E' (w.alloc (.cells us.toArray t)) (.ptr nx 0) (.pointer (some ⟨w.heap.size,0,none⟩))∧Rel P E' (w.alloc (.cells us.toArray t)) (G.upd nx (.var t cs))∧Ext E.W w (w.alloc (.cells us.toArray t))∧En.Le w E E':=by
 have hle:=En.tV hR hn;have hext:=Ext.alloc E.W w (.cells us.toArray t);refine⟨_,.ptr (show(E.add nx w.heap.size).K nx from .inl rfl) rfl (fun b hb=> ?_),hR.new hn _ rfl _ ⟨us,heap_alloc_new w _,h.1,h1,(h.ext hext hle).2,rfl⟩,hext,hle⟩;simp[En.add]at hb;rw[hb]
end
theorem foldl_set:∀(new:List Value) (cells:List Value) (off j:Nat),off+j+new.length≤cells.length→
  (new.zipIdx j).foldl (fun(cs:Array Value) (p:Value×Nat)=>cs.setIfInBounds (off+p.2) p.1) cells.toArray=(cells.take (off+j)++new++cells.drop (off+j+new.length)).toArray
 | [],cells,off,j,_=>by simp
 | v::r,cells,off,j,h=>by
  simp only[List.length_cons]at h;simp only[List.zipIdx_cons,List.foldl_cons];have e1:cells.toArray.setIfInBounds (off+j) v=(cells.set (off+j) v).toArray:=(by simp);rw[e1,foldl_set r _ off (j+1) (by simp;omega)];congr 1;have e2:off+(j+1)=off+j+1:=(by omega);have e3:off+j+1+r.length=off+j+(v::r).length:=(by simp;omega);rw[e2,e3,List.drop_set_of_lt (by simp),List.take_add_one,List.take_set_of_le (by omega),List.getElem?_set_self (by omega)];simp
theorem Dw {place:Nat→Option (Nat×Nat)} {cells:List Value} {i off k:Nat} {v:Value} {rest:List (Nat×Value)} (hp:place i=some (off,k)) (hk:v.cells.size=k) (hl:off+k≤cells.length):
  Instr.fill place cells.toArray ((i,v)::rest)=Instr.fill place (cells.take off++v.cells.toList++cells.drop (off+k)).toArray rest:=by
 rw[Instr.fill];simp only[hp];rw[if_neg (by simp[hk];omega)];congr 1;rw[←Array.foldl_toList];have:=foldl_set v.cells.toList cells off 0 (by rw[Array.length_toList];omega);simp only[Nat.add_zero,Array.length_toList,hk]at this;rw[←this];simp[Array.toList_zipIdx]
section
variable {P:Program} [Gl P] {E:En} {w:World} {G:Hp} {s:Sl} {ρ:Operand→Value}
theorem xw:∀(fs:List Field) (places:List (Nat×Nat)),fs.mapM (fun f=>(P.info? f.type).map fun i=>(f.offset,i.size))=some places→∀(i:Nat) f,fs[i]? =some f→∃ti,P.info? f.type=some ti∧places[i]? =some (f.offset,ti.size)
 | [],_,_,i,f,h=>by simp at h
 | g::fs,places,h,i,f,hf=>by
  simp only[List.mapM_cons,Option.bind_eq_bind,Option.bind_eq_some_iff,Option.pure_def,Option.map_eq_some_iff]at h;obtain⟨p,⟨ti,h1,rfl⟩,ps,h2,h3⟩:=h;injection h3 with h3;subst h3;cases i with
  | zero=>simp at hf;subst hf;exact⟨ti,h1,rfl⟩
  | succ i=>exact xw fs ps h2 i f (by simpa using hf)
theorem vS {t:TypeId} {fs:Array Field} {places:List (Nat×Nat)} (hu:P.underlying t=some (.struct fs)) (hpl:fs.toList.mapM (fun f=>(P.info? f.type).map fun i=>(f.offset,i.size))=some places):
  ∀(ps:List (Nat×Operand)) (cs r:List AV) (us:List Value),(∀x,VR P E w (evX s x) (ρ x))→All2 (VR P E w) cs us→(∀x∈us,x.oneCell'=true)→kY P s t cs ps=some r→
   ∃us',Instr.fill (places[·]?) us.toArray (ps.map fun p=>(p.1,ρ p.2))=some us'.toArray∧All2 (VR P E w) r us'∧∀x∈us',x.oneCell'=true
 | [],cs,r,us,_,h,h1,hb=>by
  simp[kY]at hb;subst hb;exact⟨us,by simp[Instr.fill],h,h1⟩
 | (i,x)::ps,cs,r,us,hx,h,h1,hb=>by
  simp only[kY]at hb;split at hb
  ·rename_i off b k hf;split at hb
   ·rename_i hc;obtain⟨hk,hl,hone⟩:=hc;obtain⟨fs',fd,hu',hfd,rfl,hty⟩:=zC hf;rw[hu]at hu';injection hu' with hu';injection hu' with hu';subst hu';obtain⟨ti,h2,h3⟩:=xw _ _ hpl i fd (by simpa using hfd);have hts:=(jF hty).2.2.2.2.2.1;simp[h2]at hts;obtain⟨h4,h5⟩:=(hx x).cells2 hone;have hsz:(ρ x).cells.size=k:=(by have:=h4.1;rw[Array.length_toList]at this;omega);have hlu:us.length=cs.length:=h.1;have hall:=((h.take fd.offset).app h4).app (h.drop (fd.offset+k));have e1:splice cs fd.offset (evX s x).cells=cs.take fd.offset++(evX s x).cells++cs.drop (fd.offset+k):=(by simp[splice,hk]);rw[e1]at hb;obtain⟨us',h6,h7,h8⟩:=vS hu hpl ps _ r _ hx hall (fun y hy=>by
     simp only[List.mem_append]at hy;rcases hy with(hy | hy) | hy
     ·exact h1 y (List.mem_of_mem_take hy)
     ·exact h5 y hy
     ·exact h1 y (List.mem_of_mem_drop hy)) hb
    refine⟨us',?_,h7,h8⟩;rw[List.map_cons,Dw (off:=fd.offset) (k:=k) (by rw[h3,hts]) hsz (by omega)];exact h6
   ·simp at hb
  ·simp at hb
theorem iO {t e k by':Nat} {z:List Value} (h:elI P t=some (e,k,by',z)):P.underlying t=some (.slice e)∧∃i v,P.info? e=some i∧i.zero=some v∧i.size=k∧i.bytes=by'∧v.cells.toList=z∧0<k∧v.cells.size=k∧(∀x∈z,x.oneCell'=true)∧(∀w,(sizeOf e).run P w=.ok k w)∧(∀w,(zeroValue e).run P w=.ok v w)∧P.cellsOf e=k:=by
 unfold elI at h;split at h
 ·rename_i e' hu;split at h
  ·rename_i i hi;split at h
   ·rename_i v hv;split at h
    ·rename_i hc;simp only[Option.some.injEq,Prod.mk.injEq]at h;obtain⟨rfl,rfl,rfl,rfl⟩:=h;exact⟨hu,i,v,hi,hv,rfl,rfl,rfl,hc.1,hc.2.1,fun x hx=>(Array.all_eq_true_iff_forall_mem.1 hc.2.2) x (by simpa using hx),fun w=>by simp[sizeOf,typeInfo,hi],fun w=>by simp[zeroValue,typeInfo,hi,hv],by simp[Program.cellsOf,hi]⟩
    ·simp at h
   ·simp at h
  ·simp at h
 ·simp at h
theorem zi (k:Nat):∀(vs:List (Nat×Value)) (j:Nat) (us:List Value),(∀p∈vs,p.2.cells.size=k)→vs.map (·.1)=(List.range vs.length).map (· +j)→us.length=(j+vs.length)*k→
  Instr.fill (fun i=>some (i*k,k)) us.toArray vs=some (us.take (j*k)++vs.flatMap fun p=>p.2.cells.toList).toArray
 | [],j,us,_,_,hl=>by
  simp at hl;simp[Instr.fill,List.take_of_length_le (Nat.le_of_eq hl)]
 | (i,v)::r,j,us,hs,hi,hl=>by
  simp only[List.map_cons,List.length_cons,List.range_succ_eq_map,List.map_map,List.cons.injEq]at hi;obtain⟨rfl,hi⟩:=hi;simp only[Nat.zero_add,List.length_cons]at*;have hv:=hs _ (List.mem_cons_self ..);simp only at hv;have hle:j*k+k≤us.length:=(by rw[hl,←Nat.succ_mul];exact Nat.mul_le_mul_right _ (by omega));rw[Dw (off:=j*k) (k:=k) rfl hv hle];rw[zi k r (j+1) _ (fun p hp=>hs p (List.mem_cons_of_mem _ hp)) (by rw[hi];congr 1;funext x;simp;omega) (by
   simp only[List.length_append,List.length_take,List.length_drop,Array.length_toList,hv];have:(j+1+r.length)*k=us.length:=(by rw[hl];congr 1;omega);omega)]
  congr 2;simp only[List.flatMap_cons,←List.append_assoc];congr 1;have e:(j+1)*k=j*k+k:=(by rw[Nat.add_mul,Nat.one_mul]);have hlen:(us.take (j*k)++v.cells.toList).length=(j+1)*k:=(by simp[hv];omega);rw[←hlen,List.take_left]
theorem Dl {α:Type} {R:AV→Value→Prop} (f:α→List AV) (g:α→List Value):∀(l:List α),(∀x∈l,All2 R (f x) (g x))→All2 R (l.flatMap f) (l.flatMap g)
 | [],_=> .nil
 | x::l,h=>by
  simp only[List.flatMap_cons];exact(h x (List.mem_cons_self ..)).app (Dl f g l fun y hy=>h y (List.mem_cons_of_mem _ hy))
theorem KE (hR:Rel P E w G) {nx:Nat} (hn:G nx=none) {e:TypeId} {n k:Nat} {ts:List AV} {us:List Value} (hk:P.cellsOf e=k) (hl:us.length=n*k) (hm:n≤maxLen) (h:All2 (TR E.M w) ts us):
  ∃E',VR P E' (w.alloc (.cells us.toArray e)) (.row nx n) (.slice (some ⟨w.heap.size,0,none⟩) n n)∧Rel P E' (w.alloc (.cells us.toArray e)) (G.upd nx (.row e ts))∧Ext E.W w (w.alloc (.cells us.toArray e))∧En.Le w E E':=by
 have hle:=En.tV hR hn;have hext:=Ext.alloc E.W w (.cells us.toArray e);have hnew:=heap_alloc_new w (.cells us.toArray e);refine⟨E.add nx w.heap.size,.row (show(E.add nx w.heap.size).K nx from .inl rfl) rfl (fun b hb=> ?_) (fun hN=>absurd rfl hN.1),hR.new hn _ rfl _ ⟨us,hnew,by rw[Nat.zero_add];exact Nat.le_of_eq h.1.symm,fun i a u ha hu=>(h.2 i a u ha (by rwa [Nat.zero_add]at hu)).ext hext.toM hle.M⟩,hext,hle⟩;have e0:(E.add nx w.heap.size).o nx=0:=(by simp[En.add]);rw[e0];simp[En.add]at hb;subst hb;refine⟨n,e,_,rfl,Nat.le_refl _,hm,?_,fun _=>rfl⟩;simp only[World.shape?];rw[hnew];simp[hl,hk]
theorem Io (hR:Rel P E w G) {nx:Nat} (hn:G nx=none) {e:TypeId} {n k:Nat} {ts:List AV} {us:List Value} (hk:P.cellsOf e=k) (hl:us.length=n*k) (hm:n≤maxLen) (h:All2 (VR P E w) ts us) (h1:∀u∈us,u.oneCell'=true):
  ∃E',VR P E' (w.alloc (.cells us.toArray e)) (.row nx n) (.slice (some ⟨w.heap.size,0,none⟩) n n)∧Rel P E' (w.alloc (.cells us.toArray e)) (G.upd nx (.var e ts))∧Ext E.W w (w.alloc (.cells us.toArray e))∧En.Le w E E':=by
 have hle:=En.tV hR hn;have hext:=Ext.alloc E.W w (.cells us.toArray e);have hnew:=heap_alloc_new w (.cells us.toArray e);refine⟨E.add nx w.heap.size,.row (show(E.add nx w.heap.size).K nx from .inl rfl) rfl (fun b hb=> ?_) (fun hN=>absurd rfl hN.1),hR.new hn _ rfl _ ⟨us,hnew,h.1,h1,fun i a u ha hu=>(h.2 i a u ha hu).ext hext hle,rfl⟩,hext,hle⟩;have e0:(E.add nx w.heap.size).o nx=0:=(by simp[En.add]);rw[e0];simp[En.add]at hb;subst hb;refine⟨n,e,_,rfl,Nat.le_refl _,hm,?_,fun _=>rfl⟩;simp only[World.shape?];rw[hnew];simp[hl,hk]
theorem Si {op:BinOp} {t:TypeId} {a b r:Value} (h:iZ P op t a b=some r):r.oneCell'=true:=by
 unfold iZ at h;split at h
 ·split at h
  ·cases op<;>dsimp only at h<;>first
    | (injection h with h;subst h;rfl)
    | (split at h<;>first | (simp at h;done) | (injection h with h;subst h;rfl))
    | simp at h
  ·simp at h
 ·cases op<;>dsimp only at h<;>first
   | (injection h with h;subst h;rfl)
   | (split at h<;>first | (simp at h;done) | (injection h with h;subst h;rfl))
   | simp at h
 ·split at h
  ·cases op<;>dsimp only at h<;>first
    | (injection h with h;subst h;rfl)
    | simp at h
  ·simp at h
 ·split at h
  ·cases op<;>dsimp only at h<;>first
    | (simp at h;done)
    | (obtain⟨q,_,rfl⟩:=Option.map_eq_some_iff.1 h;rfl)
  ·simp at h
 ·split at h<;>first | (injection h with h;subst h;rfl) | simp at h
 ·simp at h
theorem Uf {op:UnOp} {a r:Value} (h:SL op a=some r):r.oneCell'=true:=by
 unfold SL at h;split at h<;>first | (injection h with h;subst h;rfl) | simp at h
end
def En.app (E:En) (nx:Nat) (id:Option Nat) (b:Option Nat) (d:Nat:=0):En:=
 {φ:=fun i=>if i=nx then b else if some i=id then none else E.φ i,K:=fun i=>i=nx∨E.K i,
  W:=fun x=>some x=b∨(E.W x∧∀j,id=some j→E.φ j≠some x),F:=E.F,N:=fun i=>(i=nx∧b=none)∨(i≠nx∧E.N i),o:=fun i=>if i=nx then d else E.o i}
section
variable {P:Program} [Gl P] {E:En} {w w':World} {G:Hp} {s:Sl} {a:Act} {nx:Nat}
theorem Rel.Vd (hR:Rel P E w G) (hn:G nx=none) {d:Nat} {id b:Option Nat} {e:TypeId} {all:List AV} (hid:∀j,id=some j→∃e0 cs0,G j=some (.row e0 cs0))
  (hb:∀x,b=some x→w.heap.size≤x∨∃j,id=some j∧E.φ j=some x) (he:Ext E.W w w') (hoth:∀x,x<w.heap.size→some x≠b→w'.heap[x]? =w.heap[x]?) (hlt:∀x,b=some x→x<w'.heap.size)
  (hO:∀x,b=some x→∃us:List Value,w'.heap[x]? =some (.cells us.toArray e (0,0))∧d+all.length≤us.length∧∀(i:Nat) a u,all[i]? =some a→us[d+i]? =some u→TR E.M w a u) (hnil:b=none→all=[]):
  Rel P (E.app nx id b d) w' ((lI G id).upd nx (.row e all))∧En.Le w E (E.app nx id b d):=by
 have hidlt:∀j,id=some j→j≠nx:=fun j hj e=>(by obtain⟨e0,cs0,h⟩:=hid j hj;rw[e,hn]at h;cases h);have hle:En.Le w E (E.app nx id b d):=by
  refine⟨fun i h=> .inr h,fun i x hK h=> ?_,fun x hx h=> ?_,rfl,fun i hK h=> ?_,fun i x hx h=> ?_,fun i hK=> ?_⟩
  ·have hne:i≠nx:=fun e=>hR.noK hn (e▸hK);simp only[En.app,if_neg hne]at h;split at h
   ·cases h
   ·exact h
  ·rcases h with h | h
   ·rcases hb x h.symm with h1 | ⟨j,h1,h2⟩
    ·omega
    ·obtain⟨e0,cs0,hG⟩:=hid j h1;exact(hR.W x).2 ⟨j,_,h2,hG,rfl⟩
   ·exact h.1
  ·rcases h with h | h
   ·exact absurd hK (fun hK=>hR.noK hn (h.1▸hK))
   ·exact h.2
  ·by_cases hne:i=nx
   ·simp only[En.app,if_pos hne]at h;rcases hb x h with h1 | ⟨j,h1,h2⟩
    ·omega
    ·exact⟨j,h2⟩
   ·simp only[En.app,if_neg hne]at h;split at h
    ·cases h
    ·exact⟨i,h⟩
  ·have hne:i≠nx:=fun e=>hR.noK hn (e▸hK);simp[En.app,hne]
 refine⟨?_,hle⟩;have hkill:∀i,(lI G id) i=if some i=id then some .dead else G i:=by
  intro i;cases id with
  | none=>simp[lI]
  | some j=>
   by_cases h:i=j
   ·subst h;simp[lI,Hp.bW]
   ·simp[lI,Hp.upd_ne _ _ h,h]
 have hφ:∀i x,i≠nx→(E.app nx id b d).φ i=some x→some i≠id∧E.φ i=some x:=by
  intro i x hne h;simp only[En.app,if_neg hne]at h;split at h
  ·cases h
  ·rename_i h';exact⟨h',h⟩
 have hnew:∀i x,i≠nx→(E.app nx id b d).φ i=some x→some x≠b:=by
  intro i x hne h hxb;obtain⟨h1,h2⟩:=hφ i x hne h;rcases hb x hxb.symm with h3 | ⟨j,h3,h4⟩
  ·have:=hR.lt i x h2;omega
  ·exact h1 (by rw[h3,hR.inj i j x h2 h4])
 refine⟨fun i j x hi hj=> ?_,fun i x hi=> ?_,fun i x hi=> ?_,fun i o hi ha=> ?_,fun i=> ?_,fun x=> ?_,fun i x hi hF=> ?_,fun x hF=>Nat.lt_of_lt_of_le (hR.Flt x hF) he.size,fun w'' h'=>hR.good w'' (he.after hle h')⟩
 ·by_cases h1:i=nx<;>by_cases h2:j=nx
  ·rw[h1,h2]
  ·have h3:=hnew j x h2 hj;rw[h1]at hi;simp only[En.app,if_true]at hi;exact absurd hi.symm h3
  ·have h3:=hnew i x h1 hi;rw[h2]at hj;simp only[En.app,if_true]at hj;exact absurd hj.symm h3
  ·exact hR.inj i j x (hφ i x h1 hi).2 (hφ j x h2 hj).2
 ·by_cases h1:i=nx
  ·exact⟨_,by rw[h1,Hp.bW],rfl⟩
  ·obtain⟨h2,h3⟩:=hφ i x h1 hi;obtain⟨o,h4,h5⟩:=hR.dom i x h3;exact⟨o,by rw[Hp.upd_ne _ _ h1,hkill,if_neg h2];exact h4,h5⟩
 ·by_cases h1:i=nx
  ·rw[h1]at hi;simp only[En.app,if_true]at hi;exact hlt x hi
  ·exact Nat.lt_of_lt_of_le (hR.lt i x (hφ i x h1 hi).2) he.size
 ·by_cases h1:i=nx
  ·rw[h1,Hp.bW]at hi;injection hi with hi;subst hi;cases hbb:b with
   | none=>exact .inr ⟨.inl ⟨h1,rfl⟩,e,by rw[hnil hbb]⟩
   | some x=>
    obtain⟨us,q1,q2,q3⟩:=hO x hbb;have e0:(E.app nx id (some x) d).o i=d:=(by simp[En.app,h1]);refine .inl ⟨x,by rw[h1];simp[En.app],?_⟩;rw[e0];refine⟨us,q1,q2,fun i a u ha hu=>(q3 i a u ha hu).ext he.toM ?_⟩;intro y hy hm;exact(hbb▸hle).M y hy hm
  ·rw[Hp.upd_ne _ _ h1,hkill]at hi;split at hi
   ·injection hi with hi;subst hi;simp[AObj.alive]at ha
   ·rename_i h2;rcases hR.obj i o hi ha with⟨x,hx,ho⟩ | ⟨hN,he'⟩
    ·have hx':(E.app nx id b d).φ i=some x:=(by simp only[En.app,if_neg h1,if_neg h2];exact hx);exact .inl ⟨x,hx',ho.ext he hle (hle.o i ((hR.K i).2 ⟨_,hi⟩)) (hoth x (hR.lt i x hx) (hnew i x h1 hx'))⟩
    ·exact .inr ⟨.inr ⟨h1,hN⟩,he'⟩
 ·simp only[En.app];by_cases h1:i=nx
  ·subst h1;exact⟨fun _=>⟨_,Hp.bW _ _ _⟩,fun _=> .inl rfl⟩
  ·rw[Hp.upd_ne _ _ h1,hkill];simp only[h1,false_or,hR.K i];split
   ·rename_i h2;obtain⟨e0,cs0,hG⟩:=hid i h2.symm;exact⟨fun _=>⟨_,rfl⟩,fun _=>⟨_,hG⟩⟩
   ·exact Iff.rfl
 ·constructor
  ·rintro(h | ⟨h,h'⟩)
   ·exact⟨nx,_,by simp[En.app,h],Hp.bW _ _ _,rfl⟩
   ·obtain⟨i,o,h1,h2,h3⟩:=(hR.W x).1 h;have hne:i≠nx:=fun e=>(by rw[e,hn]at h2;cases h2);have hni:some i≠id:=fun e=>h' i e.symm h1;exact⟨i,o,by simp only[En.app,if_neg hne,if_neg hni];exact h1,by rw[Hp.upd_ne _ _ hne,hkill,if_neg hni];exact h2,h3⟩
  ·rintro⟨i,o,h1,h2,h3⟩;by_cases h:i=nx
   ·rw[h]at h1;simp only[En.app,if_true]at h1;exact .inl h1.symm
   ·obtain⟨h4,h5⟩:=hφ i x h h1;rw[Hp.upd_ne _ _ h,hkill,if_neg h4]at h2;exact .inr ⟨(hR.W x).2 ⟨i,o,h5,h2,h3⟩,fun j hj e=>h4 (by rw[hj,hR.inj i j x h5 e])⟩
 ·by_cases h1:i=nx
  ·rw[h1]at hi;simp only[En.app,if_true]at hi;rcases hb x hi with h2 | ⟨j,h2,h3⟩
   ·have:=hR.Flt x hF;omega
   ·exact hR.nF j x h3 hF
  ·exact hR.nF i x (hφ i x h1 hi).2 hF
theorem Rel.app (hR:Rel P E w G) (hn:G nx=none) {id b:Option Nat} {e:TypeId} {all:List AV} (hid:∀j,id=some j→∃e0 cs0,G j=some (.row e0 cs0))
  (hb:∀x,b=some x→w.heap.size≤x∨∃j,id=some j∧E.φ j=some x) (he:Ext E.W w w') (hoth:∀x,x<w.heap.size→some x≠b→w'.heap[x]? =w.heap[x]?) (hlt:∀x,b=some x→x<w'.heap.size)
  (hO:∀x,b=some x→∃us:List Value,w'.heap[x]? =some (.cells us.toArray e (0,0))∧all.length≤us.length∧∀(i:Nat) a u,all[i]? =some a→us[i]? =some u→TR E.M w a u) (hnil:b=none→all=[]):
  Rel P (E.app nx id b) w' ((lI G id).upd nx (.row e all))∧En.Le w E (E.app nx id b):=
 hR.Vd (d:=0) hn hid hb he hoth hlt (fun x hx=>by
  obtain⟨us,q1,q2,q3⟩:=hO x hx;exact⟨us,q1,by rw[Nat.zero_add];exact q2,fun i a u ha hu=>q3 i a u ha (by rwa [Nat.zero_add]at hu)⟩) hnil
end
section
variable {P:Program} [Gl P] {E:En} {w:World} {G:Hp} {s:Sl} {a:Act}
theorem Out.val (hR:Rel P E w G) {val:AV} {u:Value} (hv:VR P E w val u):Out P E w (.ok (.value u) w) val G:=⟨w,E,u,.inl rfl,hv,hR,Ext.refl _ _,En.Le.refl _ _⟩
theorem VR.mk {b:Bool} {k off:Nat} {cs:List AV} {us:List Value} (h:All2 (VR P E w) cs us) (h1:∀x∈us,x.oneCell'=true) (hk:off+k≤cs.length) (hb:b=false→k=1) (hk0:0<k):
  VR P E w (.mk b ((cs.drop off).take k)) (if b=true then .agg ((us.drop off).take k).toArray else(us[off]?.getD undef)):=by
 cases b with
 | true=>
  have h2:=(h.drop off).take k;exact .agg h2.1 h2.2 (fun x hx=>h1 x (List.mem_of_mem_drop (List.mem_of_mem_take hx)))
 | false=>
  have:=hb rfl;subst this;have hl:=h.1;have e1:(cs.drop off).take 1=[cs[off]'(by omega)]:=by
   rw[List.drop_eq_getElem_cons (by omega)];rfl
  rw[e1];simp only[AV.mk,Bool.false_eq_true,if_false,List.headD_cons];rw[List.getElem?_eq_getElem (by omega)];exact h.2 off _ _ (List.getElem?_eq_getElem (by omega)) (List.getElem?_eq_getElem (by omega))
theorem EC {t:TypeId} {f off k:Nat} {b:Bool} {cs:List AV} {u:Value} (h:flI P t f=some (off,b,k)) (hv:VR P E w (.agg cs) u) (hk:off+k≤cs.length):
  ∃x,(Instr.field t u f).run P w=.ok x w∧VR P E w (.mk b ((cs.drop off).take k)) x:=by
 obtain⟨fs,fd,hu,hf,rfl,ht⟩:=zC h;obtain⟨h1,h2,h3,h4,_⟩:=jF ht;obtain⟨us,rfl,hl,hvs,ho⟩:=hv.jO;have hmk:=VR.mk (off:=fd.offset) (k:=k) (b:=b) (⟨hl,hvs⟩:All2 (VR P E w) cs us) ho hk h4 h3;refine⟨_,?_,hmk⟩;cases b with
 | true=>
  simp[Instr.field,run_underlying hu,hf,asAgg,part,h1,h2]
 | false=>
  have:us[fd.offset]? =some us[fd.offset]:=List.getElem?_eq_getElem (by have:=h4 rfl;omega);simp[Instr.field,run_underlying hu,hf,asAgg,part,h1,this]
theorem Je {t:TypeId} {m k:Nat} {b:Bool} {cs:List AV} {u:Value} {q:IntKind} {n:Int} (h:arI P t=some (m,b,k)) (hv:VR P E w (.agg cs) u) (h0:0≤n∧n<m) (hk:n.toNat*k+k≤cs.length):
  ∃x,(Instr.index t u (.int q n)).run P w=.ok x w∧VR P E w (.mk b ((cs.drop (n.toNat*k)).take k)) x:=by
 unfold arI at h;split at h
 ·rename_i m' e hu;split at h
  ·rename_i b' k' ht;simp only[Option.some.injEq,Prod.mk.injEq]at h;obtain⟨rfl,rfl,rfl⟩:=h;obtain⟨h1,h2,h3,h4,_⟩:=jF ht;obtain⟨us,rfl,hl,hvs,ho⟩:=hv.jO;have hmk:=VR.mk (off:=n.toNat*k') (k:=k') (b:=b') (⟨hl,hvs⟩:All2 (VR P E w) cs us) ho hk h4 h3;refine⟨_,?_,hmk⟩;cases b' with
   | true=>
    simp[Instr.index,run_underlying hu,asIntOf,part,h1,h2,h0]
   | false=>
    have:us[n.toNat*k']? =some us[n.toNat*k']:=List.getElem?_eq_getElem (by have:=h4 rfl;omega);simp[Instr.index,run_underlying hu,asIntOf,part,h1,h2,h0,this]
  ·simp at h
 ·simp at h
theorem Fg (hR:Rel P E w G) {t:TypeId} {x i val:AV} {ux ui:Value} (hx:VR P E w x ux) (hi:VR P E w i ui) (h:fA P G t x i=some val):
  ∃y,(Instr.indexAt t ux ui).run P w=.ok y w∧VR P E w val y:=by
 unfold fA at h;split at h
 ·rename_i e k b z q n hel;obtain⟨hu,ti,v,hi1,hi2,hi3,hi4,hi5,hi6,hi7,hi8,hi9,hi10,hi11⟩:=iO hel;obtain⟨rfl,_⟩:=hi.iE;have run:∀(ad:Addr) (m cap:Nat),0≤n→n<m→(Instr.indexAt t (.slice (some ad) m cap) (.int q n)).run P w=.ok (.pointer (some (ad.add (n.toNat*k)))) w:=by
   intro ad m cap h0 h1;simp[Instr.indexAt,asIntOf,run_underlying hu,h0,h1,hi9]
  split at h
  ·rename_i m cs;split at h
   ·rename_i hc;obtain⟨h0,h1,h2⟩:=hc;injection h with h;subst h;cases hx.oQ with
    | nil=>simp at h2
    | @sl _ _ ad cap us hn _ hb hl hcc hr=>
     exact⟨_,run ad m cap h0 h1,.ea hx rfl (fun ad' n' cap' he=>by injection he with he;injection he with he;rw[he])⟩
   ·simp at h
  ·rename_i id m;split at h
   ·rename_i o hG;split at h
    ·rename_i hc;obtain⟨h0,h1,h2⟩:=hc;injection h with h;subst h;have hφ:∃b,E.φ id=some b:=by
      rcases hR.obj id o hG h2 with⟨b,hφ,_⟩ | ⟨hN,_⟩
      ·exact⟨b,hφ⟩
      ·have:=(hx.xA hN).2;omega
     obtain⟨b',hφ⟩:=hφ;obtain⟨cap,e',A,rfl,_⟩:=hx.sQ hφ;exact⟨_,run _ m cap h0 h1,.ea hx rfl (fun ad' n' cap' he=>by injection he with he;injection he with he;rw[he])⟩
    ·simp at h
   ·simp at h
  ·simp at h
 ·simp at h
theorem jL (hx:∀x,VR P E w (evX s x) (a.eval x)) {lo:Option Operand} {d l:Nat} (h:bnd s d lo=some l):(lo.isNone=true∧l=d)∨∃k,lo.map a.eval=some (.int k (l:Int)):=by
 unfold bnd at h;split at h
 ·injection h with h;exact .inl ⟨rfl,h.symm⟩
 ·rename_i x;split at h
  ·rename_i k n he;split at h
   ·rename_i h0;injection h with h;have:=hx x;rw[he]at this;obtain⟨h1,_⟩:=this.iE;refine .inr ⟨k,?_⟩;simp only[Option.map_some,h1];congr 2;omega
   ·simp at h
  ·simp at h
theorem jU {lo hi:Option Value} {len cap l h:Nat} {sl:Bool} (hl:(lo=none∧l=0)∨∃k,lo=some (.int k (l:Int))) (hh:(hi=none∧h=len)∨∃k,hi=some (.int k (h:Int))) (h1:l≤h) (h2:h≤cap):
  (Instr.sliceBounds sl len cap lo hi none).run P w=.ok (l,h,cap) w:=by
 unfold Instr.sliceBounds;rcases hl with⟨rfl,rfl⟩ | ⟨k1,rfl⟩<;>rcases hh with⟨rfl,rfl⟩ | ⟨k2,rfl⟩<;>simp[run_sliceBound w,h1,h2]
theorem kN {lo:Option Operand} {d l:Nat} (h:(lo.isNone=true∧l=d)∨∃k,lo.map a.eval=some (.int k (l:Int))):(lo.map a.eval=none∧l=d)∨∃k,lo.map a.eval=some (.int k (l:Int)):=by
 rcases h with⟨h1,h2⟩ | h
 ·cases lo with
  | none=>exact .inl ⟨rfl,h2⟩
  | some x=>simp at h1
 ·exact .inr h
theorem MX (hR:Rel P E w G) (hx:∀x,VR P E w (evX s x) (a.eval x)) {t:TypeId} {x val:AV} {ux:Value} {hi:Option Operand} {G':Hp} (hv:VR P E w x ux) (h:Jk P G t x (fun d=>bnd s d hi)=some (val,G')):
  ∃y,(Instr.sliceAt t ux none (hi.map a.eval) none).run P w=.ok y w∧VR P E w val y∧Rel P E w G':=by
 unfold Jk at h;split at h
 ·rename_i id n;split at h
  ·rename_i e' cs e k by' z hh hG hel hh1;obtain⟨hu,ti,v,hi1,hi2,hi3,hi4,hi5,hi6,hi7,hi8,hi9,hi10,hi11⟩:=iO hel;split at h
   ·rename_i hc;obtain⟨h0,h2,h3⟩:=hc;simp only[Option.some.injEq,Prod.mk.injEq]at h;obtain⟨rfl,rfl⟩:=h;have hobj:=hR.obj id _ hG rfl;have hrel:Rel P E w (G.upd id (.row e' (cs.take (hh*k)))):=by
     refine⟨hR.inj,fun i b hb=> ?_,hR.lt,fun i o hi ho=> ?_,fun i=> ?_,fun b=> ?_,hR.nF,hR.Flt,hR.good⟩
     ·by_cases hid:i=id
      ·subst hid;exact⟨_,Hp.bW _ _ _,rfl⟩
      ·rw[Hp.upd_ne _ _ hid];exact hR.dom i b hb
     ·by_cases hid:i=id
      ·subst hid;rw[Hp.bW]at hi;cases hi;rcases hobj with⟨b,hb,us,hus,hlen,hcells⟩ | ⟨hn,e2,he2⟩
       ·exact .inl ⟨b,hb,us,hus,by rw[List.length_take];omega,fun j a u ha hu=>hcells j a u (by
         rw[List.getElem?_take]at ha;split at ha
         ·exact ha
         ·cases ha) hu⟩
       ·cases he2;exact .inr ⟨hn,e',by rw[List.take_nil]⟩
      ·rw[Hp.upd_ne _ _ hid]at hi;exact hR.obj i o hi ho
     ·by_cases hid:i=id
      ·subst hid;rw[Hp.bW,hR.K];exact⟨fun _=>⟨_,rfl⟩,fun _=>⟨_,hG⟩⟩
      ·rw[Hp.upd_ne _ _ hid];exact hR.K i
     ·rw[hR.W];constructor
      ·rintro⟨i,o,h1,h2,h3⟩;by_cases hid:i=id
       ·subst hid;exact⟨i,_,h1,Hp.bW _ _ _,rfl⟩
       ·exact⟨i,o,h1,by rw[Hp.upd_ne _ _ hid];exact h2,h3⟩
      ·rintro⟨i,o,h1,h2,h3⟩;by_cases hid:i=id
       ·subst hid;exact⟨i,_,h1,hG,rfl⟩
       ·exact⟨i,o,h1,by rw[Hp.upd_ne _ _ hid]at h2;exact h2,h3⟩
    cases hv with
    | tree h=>cases h
    | row hK h1 hb hN=>
     rcases hobj with⟨b,hφ,us,hus,hlen,hcells⟩ | ⟨hn,e2,he2⟩
     ·obtain⟨cap,e0,A,rfl,hnc,hcm,hsh,hA⟩:=hb b hφ;have hbd:=jU (P:=P) (w:=w) (sl:=true) (len:=n) (cap:=cap) (lo:=none) (hi:=hi.map a.eval) (l:=0) (h:=hh) (.inl ⟨rfl,rfl⟩) (kN (jL hx hh1)) (by omega) (by omega);refine⟨.slice (some A) hh cap,?_,.row hK rfl (fun b' hb'=>⟨cap,e0,A,rfl,by omega,hcm,by rw[hφ]at hb';cases hb';exact hsh,by rw[hφ]at hb';cases hb';exact hA⟩) (fun hn=>by cases (hN hn).1),hrel⟩;have e1:A.add 0=A:=(by simp[Addr.add]);simp[Instr.sliceAt,run_underlying hu,Instr.slice,hbd,hi9,e1]
     ·obtain⟨rfl,rfl⟩:=hN hn;obtain rfl:hh=0:=(by omega);have hbd:=jU (P:=P) (w:=w) (sl:=true) (len:=0) (cap:=0) (lo:=none) (hi:=hi.map a.eval) (l:=0) (h:=0) (.inl ⟨rfl,rfl⟩) (kN (jL hx hh1)) (by omega) (by omega);refine⟨.slice none 0 0,?_,.row hK rfl (fun b' hb'=>by obtain⟨_,_,_,h,_⟩:=hb b' hb';cases h) (fun hn=>⟨rfl,rfl⟩),hrel⟩;simp[Instr.sliceAt,run_underlying hu,Instr.slice,hbd,hi9]
   ·cases h
  ·cases h
 ·cases h
theorem Jf (hR:Rel P E w G) {nx nx':Nat} (hn:G nx=none) (hx:∀x,VR P E w (evX s x) (a.eval x)) {t:TypeId} {x val:AV} {ux:Value} {lo:Option Operand} {G':Hp} (hv:VR P E w x ux) (h:yx P G nx t x (fun d=>bnd s d lo)=some (val,G',nx')):
  ∃y E',(Instr.sliceAt t ux (lo.map a.eval) none none).run P w=.ok y w∧VR P E' w val y∧Rel P E' w G'∧En.Le w E E':=by
 unfold yx at h;split at h
 ·rename_i id n;split at h
  ·rename_i e' cs e k by' z l hG hel hl1;obtain⟨hu,ti,v,hi1,hi2,hi3,hi4,hi5,hi6,hi7,hi8,hi9,hi10,hi11⟩:=iO hel;split at h
   ·rename_i hc;obtain⟨rfl,h2,h3⟩:=hc;simp only[Option.some.injEq,Prod.mk.injEq]at h;obtain⟨rfl,rfl,rfl⟩:=h;have hid:∀j,some id=some j→∃e0 cs0,G j=some (.row e0 cs0):=fun j hj=>(by injection hj with hj;subst hj;exact⟨_,_,hG⟩);cases hv with
    | tree h=>cases h
    | row hK h1 hb hN=>
     rcases hR.obj id _ hG rfl with⟨b,hφ,us,hus,hlen,hcells⟩ | ⟨hnn,e2,he2⟩
     ·obtain⟨cap,e0,A,rfl,hnc,hcm,hsh,hA⟩:=hb b hφ;have hsh2:=hsh;simp only[World.shape?]at hsh2;rw[hus]at hsh2;simp at hsh2;obtain⟨rfl,hsz⟩:=hsh2;rw[hi11]at hsz;have hlt:b<w.heap.size:=(Array.getElem?_eq_some_iff.1 hus).1;have hbd:=jU (P:=P) (w:=w) (sl:=true) (len:=n) (cap:=cap) (lo:=lo.map a.eval) (hi:=none) (l:=l) (h:=n) (kN (jL hx hl1)) (.inl ⟨rfl,rfl⟩) h2 hnc;have hlk:l*k≤n*k:=Nat.mul_le_mul_right _ h2;have hnk:n*k≤cap*k:=Nat.mul_le_mul_right _ hnc;obtain⟨r1,r2⟩:=hR.Vd (d:=E.o id+l*k) (b:=some b) (id:=some id) (e:=e') hn hid (fun x hx=>by injection hx with hx;subst hx;exact .inr ⟨id,rfl,hφ⟩) (Ext.refl E.W w) (fun _ _ _=>rfl) (fun x hx=>by injection hx with hx;subst hx;exact hlt) (all:=cs.drop (l*k)) (fun x hx=>by
       injection hx with hx;subst hx;refine⟨us,hus,?_,fun i a u ha hu=>hcells (l*k+i) a u (by rw[←List.getElem?_drop];exact ha) (by rw[←Nat.add_assoc];exact hu)⟩;rw[List.length_drop];omega) (fun hx=>by cases hx)
      refine⟨.slice (if cap=l then some A else(some A).map (·.add (l*k))) (n-l) (cap-l),_,?_,.row (show(E.app nx (some id) (some b) (E.o id+l*k)).K nx from .inl rfl) rfl (fun b' hb'=> ?_) (fun hN=> ?_),r1,r2⟩
      ·simp[Instr.sliceAt,run_underlying hu,Instr.slice,hbd,hi9]
      ·have e0:(E.app nx (some id) (some b) (E.o id+l*k)).o nx=E.o id+l*k:=(by simp[En.app]);rw[e0];simp[En.app]at hb';subst hb';by_cases hcl:cap=l
       ·subst hcl;refine⟨0,e',A,by simp,by omega,Nat.zero_le _,?_,fun h=>absurd h (by omega)⟩;simp only[World.shape?];rw[hus];simp[hi11,hsz]
       ·refine⟨cap-l,e',A.add (l*k),by simp[hcl],by omega,Nat.le_trans (Nat.sub_le _ _) hcm,?_,fun _=> ?_⟩
        ·have hcl2:l≤cap:=Nat.le_trans h2 hnc;simp only[World.shape?];rw[hus];simp only[List.size_toArray,hi11,Option.some.injEq,Prod.mk.injEq,true_and];have:=Nat.mul_le_mul_right k hcl2;rw[Nat.sub_mul];omega
        ·rw[hA (by omega),add_lit]
      ·rcases hN with⟨_,h⟩ | ⟨h,_⟩
       ·cases h
       ·exact absurd rfl h
     ·cases he2;obtain⟨rfl,rfl⟩:=hN hnn;obtain rfl:l=0:=(by omega);have hbd:=jU (P:=P) (w:=w) (sl:=true) (len:=0) (cap:=0) (lo:=lo.map a.eval) (hi:=none) (l:=0) (h:=0) (kN (jL hx hl1)) (.inl ⟨rfl,rfl⟩) (by omega) (by omega);obtain⟨r1,r2⟩:=hR.app (b:=none) (id:=some id) (e:=e') hn hid (fun x hx=>by cases hx) (Ext.refl E.W w) (fun _ _ _=>rfl) (fun x hx=>by cases hx) (all:=[]) (fun x hx=>by cases hx) (fun _=>rfl);refine⟨.slice none 0 0,_,?_,.row (show(E.app nx (some id) none).K nx from .inl rfl) rfl (fun b' hb'=>by simp[En.app]at hb') (fun _=>⟨rfl,rfl⟩),?_,r2⟩
      ·simp[Instr.sliceAt,run_underlying hu,Instr.slice,hbd,hi9]
      ·simpa using r1
   ·cases h
  ·cases h
 ·cases h
theorem Ey (hR:Rel P E w G) (hx:∀x,VR P E w (evX s x) (a.eval x)) {t:TypeId} {x val:AV} {ux:Value} {lo hi:Option Operand} {G':Hp} (hv:VR P E w x ux) (h:eH P G t x (fun d=>bnd s d lo) (fun d=>bnd s d hi)=some (val,G')):
  ∃y E',(Instr.sliceAt t ux (lo.map a.eval) (hi.map a.eval) none).run P w=.ok y w∧VR P E' w val y∧Rel P E' w G'∧En.Le w E E':=by
 unfold eH at h;split at h
 ·rename_i b;obtain⟨rfl,_⟩:=hv.iE;split at h
  ·rename_i l hh hl1 hh1;split at h
   ·rename_i hc;obtain⟨h0,h1,h2⟩:=hc;simp only[Option.some.injEq,Prod.mk.injEq]at h;obtain⟨rfl,rfl⟩:=h;have hu:=rQ h0;have hb:=jU (P:=P) (w:=w) (sl:=false) (len:=b.size) (cap:=b.size) (kN (jL hx hl1)) (kN (jL hx hh1)) h1 h2;refine⟨_,E,?_,.tree (.v rfl),hR,En.Le.refl _ _⟩;simp[Instr.sliceAt,run_underlying hu,Instr.slice,hb]
   ·simp at h
  ·simp at h
 ·split at h
  ·rename_i e k by' z n cs hel htr;obtain⟨hu,ti,v,hi1,hi2,hi3,hi4,hi5,hi6,hi7,hi8,hi9,hi10,hi11⟩:=iO hel;split at h
   ·rename_i l hh hl1 hh1;split at h
    ·rename_i hc;obtain⟨h1,h2,h3⟩:=hc;simp only[Option.some.injEq,Prod.mk.injEq]at h;obtain⟨rfl,rfl⟩:=h;obtain⟨E',hR',p1,p2,pF,pN,p3,p4⟩:=nR hR hv htr;have hle:=En.EH w p1 p2 pF pN p3;have fin:∀(A:Option Addr) (cap:Nat),ux=.slice A n cap→n≤cap→(∀m:Nat,m=cap→∀B,B=(if m=l then A else A.map (·.add (l*k)))→TR E'.M w (.sl (hh-l) ((cs.drop (l*k)).take ((hh-l)*k))) (.slice B (hh-l) (m-l)))→
       ∃y E'',(Instr.sliceAt t ux (lo.map a.eval) (hi.map a.eval) none).run P w=.ok y w∧VR P E'' w (.sl (hh-l) ((cs.drop (l*k)).take ((hh-l)*k))) y∧Rel P E'' w (bT G x)∧En.Le w E E'':=by
      rintro A cap rfl hn hT;have hb:=jU (P:=P) (w:=w) (sl:=true) (len:=n) (cap:=cap) (kN (jL hx hl1)) (kN (jL hx hh1)) h1 (by omega);refine⟨_,E',?_,.tree (hT cap rfl _ rfl),hR',hle⟩;simp[Instr.sliceAt,run_underlying hu,Instr.slice,hb,hi9]
     cases p4 with
     | @nil _ A cap hn=>
      refine fin A _ rfl hn (fun m _ B _=> ?_);rw[List.drop_nil,List.take_nil];exact .nil _ (by omega)
     | @sl _ _ ad cap us hn h0 hb hl hcc hr=>
      refine fin (some ad) _ rfl hn (fun m hm B hB=> ?_);by_cases hemp:0<((cs.drop (l*k)).take ((hh-l)*k)).length
      ·have hlt:l<hh:=by
        rw[List.length_take]at hemp;rcases Nat.lt_or_ge l hh with h | h
        ·exact h
        ·have:hh-l=0:=(by omega);rw[this]at hemp;simp at hemp
       have hB':B=some (ad.add (l*k)):=(by rw[hB,if_neg (by omega)];rfl);rw[hB'];have hle2:l*k+(hh-l)*k≤cs.length:=by
        rw[h3,←Nat.add_mul];exact Nat.mul_le_mul_right _ (by omega)
       have hall:All2 (TR E'.M w) cs us:=⟨hl,hr⟩;have h2':=(hall.drop (l*k)).take ((hh-l)*k);refine .sl (us:=(us.drop (l*k)).take ((hh-l)*k)) (by omega) hemp (by rw[add_block];exact hb) h2'.1 (fun i u hu'=> ?_) h2'.2;rw[List.getElem?_take]at hu';split at hu'
       ·rw[List.getElem?_drop]at hu';rw[add_add];exact hcc _ u hu'
       ·simp at hu'
      ·rw[List.eq_nil_of_length_eq_zero (Nat.le_zero.1 (Nat.not_lt.1 hemp))];exact .nil _ (by omega)
    ·simp at h
   ·simp at h
  ·simp at h
end
theorem sW {G:Hp} {a:AV} {i:Nat} (h:G i=none):bT G a i=none:=by
 (cases a<;>try exact h);rename_i id n;simp only[bT];cases hG:G id with
 | none=>exact h
 | some o=>
  (cases o<;>try exact h);rename_i e cs;cases cs with
  | nil=>exact h
  | cons c cs=>
   by_cases hi:i=id
   ·subst hi;rw[h]at hG;cases hG
   ·show G.upd id (.frz e (c::cs)) i=none;rw[Hp.upd_ne _ _ hi];exact h
theorem iY {P:Program} :∀ {as ts:List AV} {G G':Hp} {i:Nat},bY P G as=some (ts,G')→G i=none→G' i=none
 | [],ts,G,G',i,h,hn=>by simp[bY]at h;rw[←h.2];exact hn
 | a::as,ts,G,G',i,h,hn=>by
  simp only[bY]at h;split at h
  ·rename_i t ts' G1 h1 h2;simp only[Option.some.injEq,Prod.mk.injEq]at h;obtain⟨_,rfl⟩:=h;exact iY h2 (sW hn)
  ·simp at h
theorem Bj {P:Program} {G G':Hp} {t:TypeId} {a v:AV} {i:Nat} (h:jA P G t a v=some G') (hn:G i=none):G' i=none:=by
 unfold jA at h;split at h
 ·simp at h
 ·split at h
  ·split at h
   ·rename_i id off;split at h
    ·rename_i t0 cs hG;split at h
     ·injection h with h;subst h;rw[Hp.upd_ne _ _ (fun e=>by rw[e,hG]at hn;cases hn)];exact hn
     ·simp at h
    ·simp at h
   ·rename_i id n off;split at h
    ·rename_i ts G1 ht;have h1:=iY ht hn;split at h
     ·rename_i e cs hG;split at h
      ·injection h with h;subst h;rw[Hp.upd_ne _ _ (fun e=>by rw[e,hG]at h1;cases h1)];exact h1
      ·simp at h
     ·simp at h
    ·simp at h
   ·simp at h
  ·simp at h
section
variable {P:Program} [Gl P] {E:En} {w:World} {G:Hp} {s:Sl} {a:Act} {nx:Nat}
theorem xY {ps:List (Nat×Operand)} {k:Nat} (hx:∀x,VR P E w (evX s x) (a.eval x)) (h:ps.all (fun p=>decide ((evX s p.2).cells.length=k)&&(evX s p.2).cells.all AV.one)=true):
  All2 (VR P E w) (ps.flatMap fun p=>(evX s p.2).cells) (ps.flatMap fun p=>(a.eval p.2).cells.toList)∧(∀p∈ps,(a.eval p.2).cells.size=k)∧(∀x∈ps.flatMap fun p=>(a.eval p.2).cells.toList,x.oneCell'=true):=by
 simp only[List.all_eq_true,Bool.and_eq_true,decide_eq_true_eq]at h;have hc:∀p∈ps,All2 (VR P E w) (evX s p.2).cells (a.eval p.2).cells.toList∧∀x∈(a.eval p.2).cells.toList,x.oneCell'=true:=fun p hp=>(hx p.2).cells2 (by rw[List.all_eq_true];exact(h p hp).2);refine⟨Dl _ _ ps fun p hp=>(hc p hp).1,fun p hp=> ?_,fun x hx'=> ?_⟩
 ·have h1:=(hc p hp).1.1;have h2:=(h p hp).1;rw[Array.length_toList]at h1;omega
 ·obtain⟨p,hp,hx2⟩:=List.mem_flatMap.1 hx';exact(hc p hp).2 x hx2
set_option maxHeartbeats 1000000 in
theorem Gq (hR:Rel P E w G) (hx:∀x,VR P E w (evX s x) (a.eval x)) (hn:G nx=none) {o:Oper} {val:AV} {G':Hp} {nx':Nat} (h:iq P s G nx o.op=some (val,G',nx')):Out P E w ((execOp a.eval o).run P w) val G':=by
 unfold iq at h;unfold execOp;cases hop:o.op<;>simp only[hop]at h⊢
 case move x=>simp only[Option.some.injEq,Prod.mk.injEq]at h;obtain⟨rfl,rfl,rfl⟩:=h;exact Out.val hR (hx x)
 case assign x=>simp only[Option.some.injEq,Prod.mk.injEq]at h;obtain⟨rfl,rfl,rfl⟩:=h;exact Out.val hR (hx x)
 case pick c x y=>
  split at h
  ·rename_i t he;simp only[Option.some.injEq,Prod.mk.injEq]at h;obtain⟨rfl,rfl,rfl⟩:=h;have:=hx c;rw[he]at this;have hc:=this.iE.1;cases t
   ·exact⟨w,E,a.eval y,.inl (by simp[hc,asBool]),by simpa using hx y,hR,Ext.refl _ _,En.Le.refl _ _⟩
   ·exact⟨w,E,a.eval x,.inl (by simp[hc,asBool]),by simpa using hx x,hR,Ext.refl _ _,En.Le.refl _ _⟩
  ·simp at h
 case alloc t=>
  split at h
  ·rename_i z hz;simp only[Option.some.injEq,Prod.mk.injEq]at h;obtain⟨rfl,rfl,rfl⟩:=h;obtain⟨v,h1,h2,h3,_⟩:=Ig hz;obtain⟨E',q1,q2,q3,q4⟩:=BG (t:=t) hR hn (Et (P:=P) (E:=E) (w:=w) h3) h3;refine⟨_,E',_,.inl ?_,q1,q2,q3,q4⟩;rw[←h2];simp[Instr.alloc,h1,newVar,newRow]
  ·simp at h
 case box t x=>
  split at h
  ·rename_i hone;simp only[Option.some.injEq,Prod.mk.injEq]at h;obtain⟨rfl,rfl,rfl⟩:=h;obtain⟨h1,h2⟩:=(hx x).cells2 hone;obtain⟨E',q1,q2,q3,q4⟩:=BG (t:=t) hR hn h1 h2;refine⟨_,E',_,.inl ?_,q1,q2,q3,q4⟩;simp[Instr.box,newVar,newRow]
  ·simp at h
 case build t ps=>
  split at h
  ·rename_i z places hz hpl0;obtain⟨fs,hu,hpl⟩:=Qd hpl0;split at h
   ·rename_i cs hb;simp only[Option.some.injEq,Prod.mk.injEq]at h;obtain⟨rfl,rfl,rfl⟩:=h;obtain⟨v,h1,h2,h3,h4⟩:=Ig hz;obtain⟨ti,h5,h6⟩:=Option.bind_eq_some_iff.1 h4
    ·obtain⟨us',q1,q2,q3⟩:=vS (ρ:=a.eval) hu hpl ps.toList _ _ z hx (Et h3) h3 hb;have hbuilt:P.built t (ps.map fun(i,x)=>(i,a.eval x)).toList=some us'.toArray:=by
      unfold Program.built;rw[h5,hu];simp only[h6,hpl];have e1:v.cells=z.toArray:=(by rw[←h2]);have e2:(ps.map fun(i,x)=>(i,a.eval x)).toList=ps.toList.map fun p=>(p.1,a.eval p.2):=(by simp);rw[e1,e2];simpa using q1
     refine⟨w,E,_,.inl ?_,.agg q2.1 q2.2 q3,hR,Ext.refl _ _,En.Le.refl _ _⟩;simp[run_build w t _ _ hbuilt]
   ·simp at h
  ·simp at h
 case buildSlice t n ps=>
  split at h
  ·rename_i e k by' z hel;obtain⟨hu,ti,v,hi1,hi2,hi3,hi4,hi5,hi6,hi7,hi8,hi9,hi10,hi11⟩:=iO hel;split at h
   ·rename_i hc;obtain⟨hr,hsz,hn',hall⟩:=hc;obtain⟨c1,c2,c3⟩:=xY (k:=k) hx hall;have hlp:ps.size=n:=(by have:=congrArg List.length hr;simpa using this);have hfill:=zi k (ps.toList.map fun p=>(p.1,a.eval p.2)) 0 ((Array.range (n*k)).map (v.cells[· %v.cells.size]!)).toList (by
     intro p hp;obtain⟨q,hq,rfl⟩:=List.mem_map.1 hp;exact c2 q hq) (by simp only[List.map_map,List.length_map,Array.length_toList,hlp];rw[←hr];simp[Function.comp_def]) (by simp[hlp])
    have hus:(ps.toList.map fun p=>(p.1,a.eval p.2)).flatMap (fun p=>p.2.cells.toList)=ps.toList.flatMap fun p=>(a.eval p.2).cells.toList:=(by rw[List.flatMap_map]);rw[hus]at hfill;simp only[Nat.zero_mul,List.take_zero,List.nil_append,Array.toArray_toList]at hfill;have hlen:(ps.toList.flatMap fun p=>(a.eval p.2).cells.toList).length=n*k:=by
     have:∀(l:List (Nat×Operand)),(∀p∈l,(a.eval p.2).cells.size=k)→(l.flatMap fun p=>(a.eval p.2).cells.toList).length=l.length*k:=by
      intro l;induction l with
      | nil=>simp
      | cons p l ih=>
       intro hl;rw[List.flatMap_cons,List.length_append,ih (fun q hq=>hl q (List.mem_cons_of_mem _ hq)),Array.length_toList,hl p (List.mem_cons_self ..),List.length_cons,Nat.add_mul,Nat.one_mul,Nat.add_comm]
     rw[this _ c2,Array.length_toList,hlp]
    split at h
    ·rename_i ts G1 ht;simp only[Option.some.injEq,Prod.mk.injEq]at h;obtain⟨rfl,rfl,rfl⟩:=h;obtain⟨E1,hR1,p1,p2,pF,pN,p3,p4,p5⟩:=l7 hR c1 ht;obtain⟨E2,q1,q2,q3,q4⟩:=KE hR1 (iY ht hn) (n:=n) hi11 hlen (by unfold maxLen;omega) p4;have hle:=En.EH w p1 p2 pF pN p3;refine⟨_,E2,_,.inl ?_,q1,q2,q3.mono (fun b _ h=>p3 b h),hle.trans q4 (Nat.le_refl _)⟩;have hn0:¬(n*k>2^24):=(by omega);by_cases h0:n*k=0
     ·have e0:Array.range 0= #[]:=rfl;rw[h0,e0]at hfill;simp only[Array.map_empty]at hfill;simp[Instr.buildSlice,run_underlying hu,hi9,h0,e0,hfill,newRow]
     ·simp[Instr.buildSlice,run_underlying hu,hi9,h0,hn0,hi10,hfill,newRow]
    ·split at h
     ·rename_i hnt hif;simp only[Option.some.injEq,Prod.mk.injEq]at h;obtain⟨rfl,rfl,rfl⟩:=h;obtain⟨E2,q1,q2,q3,q4⟩:=Io hR hn (n:=n) hi11 hlen (by unfold maxLen;omega) c1 c3;refine⟨_,E2,_,.inl ?_,q1,q2,q3,q4⟩;have hn0:¬(n*k>2^24):=(by omega);have h0:¬n*k=0:=(by omega);simp[Instr.buildSlice,run_underlying hu,hi9,h0,hn0,hi10,hfill,newRow]
     ·simp at h
   ·simp at h
  ·simp at h
 case load t x=>
  obtain⟨v,hv,he⟩:=Option.map_eq_some_iff.1 h;simp only[Prod.mk.injEq]at he;obtain⟨rfl,rfl,rfl⟩:=he;split at hv
  ·rename_i v' hg;injection hv with hv;subst hv;unfold tN at hg;split at hg
   ·rename_i g;split at hg
    ·rename_i b k vs hT hvs;split at hg
     ·rename_i hk;injection hg with hg;obtain⟨p1,p2⟩:=Gl.holds w g vs (hR.good w (ExtC.refl _ _)) hvs;obtain⟨y,h1,h2⟩:=BH (E:=E) hT (cs:=vs.map AV.v) (us:=vs) (ad:=⟨g,0,none⟩) (by simpa using hk) (by simp) (fun i x hi=>by rw[add_lit,Nat.zero_add];exact p2 i x hi)
       (fun i c x hc hx=>by
        rw[List.getElem?_map,hx]at hc;injection hc with hc;subst hc;exact .tree (.v (p1 x (List.mem_of_getElem? hx)))) p1 hg
      exact Out.same hR h1 h2
     ·cases hg
    ·cases hg
   ·cases hg
  ·obtain⟨y,h1,h2⟩:=yN hR (hx x) hv;exact Out.same hR h1 h2
 case store t x y=>
  obtain⟨G1,hv,he⟩:=Option.map_eq_some_iff.1 h;simp only[Prod.mk.injEq]at he;obtain⟨rfl,rfl,rfl⟩:=he;obtain⟨w',E',h1,h2,h3,h4⟩:=EF hR (hx x) (hx y) hv;exact⟨w',E',undef,.inr ⟨by simp[h1],rfl⟩,.any _,h2,h3,h4⟩
 case nilCheck x=>
  split at h
  ·rename_i hadr;simp only[Option.some.injEq,Prod.mk.injEq]at h;obtain⟨rfl,rfl,rfl⟩:=h;obtain⟨ad,hu⟩:=Dz hR (hx x) hadr;refine⟨w,E,a.eval x,.inl ?_,hx x,hR,Ext.refl _ _,En.Le.refl _ _⟩;rw[hu];simp
  ·split at h
   ·rename_i f cs he;simp only[Option.some.injEq,Prod.mk.injEq]at h;obtain⟨rfl,rfl,rfl⟩:=h;have hv:=hx x;rw[he]at hv;obtain⟨us,hu,_⟩:=hv.Dk;refine⟨w,E,a.eval x,.inl ?_,hv,hR,Ext.refl _ _,En.Le.refl _ _⟩;rw[hu];simp
   ·simp at h
 case binOp op t x y yt=>
  split at h
  ·rename_i u v hu hv;obtain⟨r,hr,he⟩:=Option.map_eq_some_iff.1 h;simp only[Prod.mk.injEq]at he;obtain⟨rfl,rfl,rfl⟩:=he;rw[lD (hx x) hu,lD (hx y) hv];exact Out.same hR (Kv hr) (.tree (.v (Si hr)))
  ·simp at h
 case unOp op t x=>
  split at h
  ·rename_i u hu;obtain⟨r,hr,he⟩:=Option.map_eq_some_iff.1 h;simp only[Prod.mk.injEq]at he;obtain⟨rfl,rfl,rfl⟩:=he;rw[lD (hx x) hu];exact Out.same hR (PG hr) (.tree (.v (Uf hr)))
  ·simp at h
 case convert src dst x=>
  split at h
  ·rename_i k n he;split at h
   ·rename_i d k' hs hd;simp only[Option.some.injEq,Prod.mk.injEq]at h;obtain⟨rfl,rfl,rfl⟩:=h;have hv:=hx x;rw[he]at hv;have hi:P.intKind dst=k':=(by simp[Program.intKind,hd]);have:=run_convert_int w src dst k n (by rw[hs];rfl) (by rw[hi];exact hd);rw[hi]at this;rw[hv.iE.1];exact Out.same hR this (.tree (.v rfl))
   ·simp at h
  ·rename_i b he;split at h
   ·rename_i hs hd;simp only[Option.some.injEq,Prod.mk.injEq]at h;obtain⟨rfl,rfl,rfl⟩:=h;have hv:=hx x;rw[he]at hv;rw[hv.iE.1];exact Out.same hR (u:=.string b) (by simp[convert,run_underlying hs,run_underlying hd]) (.tree (.v rfl))
   ·simp at h
  ·simp at h
 case makeFunc f first caps=>
  cases f
  case func f=>
   dsimp only at h;split at h
   ·rename_i hf;subst hf;simp only[Option.some.injEq,Prod.mk.injEq]at h;obtain⟨rfl,rfl,rfl⟩:=h;refine Out.same hR (u:=.func (.func f) #[] (caps.map a.eval)) (by simp[Instr.makeFunc]) ?_;have:caps.map a.eval=(caps.toList.map a.eval).toArray:=(by rw[←Array.toList_map,Array.toArray_toList]);rw[this];refine .fn (by simp) (fun i c u hc hu=> ?_);rw[List.getElem?_map]at hc hu;cases hi:caps.toList[i]? with
    | none=>simp[hi]at hc
    | some x=>simp[hi]at hc hu;subst hc;subst hu;exact hx x
   ·split at h
    ·rename_i hf;subst hf;simp only[Option.some.injEq,Prod.mk.injEq]at h;obtain⟨rfl,rfl,rfl⟩:=h;refine Out.same hR (u:=.func (.func f) (first.map a.eval) #[]) (by simp[Instr.makeFunc]) ?_;have:first.map a.eval=(first.toList.map a.eval).toArray:=(by rw[←Array.toList_map,Array.toArray_toList]);rw[this];refine .mt (by simp) (fun i c u hc hu=> ?_);rw[List.getElem?_map]at hc hu;cases hi:first.toList[i]? with
     | none=>simp[hi]at hc
     | some x=>simp[hi]at hc hu;subst hc;subst hu;exact hx x
    ·simp at h
  all_goals simp at h
 case fieldAddr t x f=>
  split at h
  ·rename_i off b k hf;split at h
   ·rename_i hadr;obtain⟨ad,hu⟩:=Dz hR (hx x) hadr;split at h
    ·rename_i id o' he;simp only[Option.some.injEq,Prod.mk.injEq]at h;obtain⟨rfl,rfl,rfl⟩:=h;have hv:=hx x;rw[he,hu]at hv;rw[hu];exact Out.same hR (lY hf ad) hv.Ro
    ·rename_i b' o' he;simp only[Option.some.injEq,Prod.mk.injEq]at h;obtain⟨rfl,rfl,rfl⟩:=h;have hv:=hx x;rw[he,hu]at hv;rw[hu];exact Out.same hR (lY hf ad) hv.TP
    ·rename_i b' o' he;simp only[Option.some.injEq,Prod.mk.injEq]at h;obtain⟨rfl,rfl,rfl⟩:=h;have hv:=hx x;rw[he,hu]at hv;rw[hu];exact Out.same hR (lY hf ad) hv.TJ
    ·simp at h
   ·simp at h
  ·simp at h
 case field t x f=>
  split at h
  ·rename_i off b k cs hf he;split at h
   ·rename_i hk;simp only[Option.some.injEq,Prod.mk.injEq]at h;obtain⟨rfl,rfl,rfl⟩:=h;have hv:=hx x;rw[he]at hv;obtain⟨y,h1,h2⟩:=EC hf hv hk;exact Out.same hR h1 h2
   ·simp at h
  ·simp at h
 case indexAddr t x i=>
  obtain⟨v,hv,he⟩:=Option.map_eq_some_iff.1 h;simp only[Prod.mk.injEq]at he;obtain⟨rfl,rfl,rfl⟩:=he;obtain⟨y,h1,h2⟩:=Fg hR (hx x) (hx i) hv;exact Out.same hR h1 h2
 case index t x i=>
  split at h
  ·rename_i cs k n he1 he2;split at h
   ·rename_i m b k' ha;split at h
    ·rename_i hc;simp only[Option.some.injEq,Prod.mk.injEq]at h;obtain⟨rfl,rfl,rfl⟩:=h;have hv1:=hx x;have hv2:=hx i;rw[he1]at hv1;rw[he2]at hv2;rw[hv2.iE.1];obtain⟨y,h1,h2⟩:=Je (q:=k) ha hv1 ⟨hc.1,hc.2.1⟩ hc.2.2;exact Out.same hR h1 h2
    ·simp at h
   ·simp at h
  ·rename_i b k n he1 he2;split at h
   ·rename_i hb;split at h
    ·rename_i hs;simp only[Option.some.injEq,Prod.mk.injEq]at h;obtain⟨rfl,rfl,rfl⟩:=h;have hv1:=hx x;have hv2:=hx i;rw[he1]at hv1;rw[he2]at hv2;rw[hv1.iE.1,hv2.iE.1];refine Out.same hR (u:=.int .u8 (b[n.toNat]'hb.2).toNat) ?_ (.tree (.v rfl));have h1:b[n.toNat]? =some (b[n.toNat]'hb.2):=getElem?_pos ..;simp[Instr.index,asIntOf,run_underlying (rQ hs),hb.1,h1]
    ·simp at h
   ·simp at h
  ·simp at h
 case slice t x lo hi mx=>
  cases mx with
  | some m=>simp at h
  | none=>
   replace h:(if Fj P t lo hi=true then yx P G nx t (evX s x) (fun d=>bnd s d lo)else(if(Gl.shr P t&&lo.isNone)=true then Jk P G t (evX s x) (fun d=>bnd s d hi)else eH P G t (evX s x) (fun d=>bnd s d lo) (fun d=>bnd s d hi)).map fun r=>(r.1,r.2,nx))=some (val,G',nx'):=h
   split at h
   ·rename_i hd;simp only[Fj,Bool.and_eq_true,Option.isNone_iff_eq_none]at hd;obtain⟨_,_,rfl⟩:=hd;obtain⟨y,E',h1,h2,h3,h4⟩:=Jf hR hn hx (hx x) h;exact⟨w,E',y,.inl (by simp[h1]),h2,h3,Ext.refl _ _,h4⟩
   obtain⟨r,hv,he⟩:=Option.map_eq_some_iff.1 h;simp only[Prod.mk.injEq]at he;obtain⟨rfl,rfl,rfl⟩:=he;split at hv
   ·rename_i hlo;simp only[Bool.and_eq_true,Option.isNone_iff_eq_none]at hlo;obtain⟨_,rfl⟩:=hlo;obtain⟨y,h1,h2,h3⟩:=MX (val:=r.1) (G':=r.2) hR hx (hx x) hv;exact⟨w,E,y,.inl (by simp[h1]),h2,h3,Ext.refl _ _,En.Le.refl _ _⟩
   obtain⟨y,E',h1,h2,h3,h4⟩:=Ey (val:=r.1) (G':=r.2) hR hx (hx x) hv;exact⟨w,E',y,.inl (by simp[h1]),h2,h3,Ext.refl _ _,h4⟩
 case extract x i=>
  split at h
  ·rename_i vs he;split at h
   ·rename_i v hvs;simp only[Option.some.injEq,Prod.mk.injEq]at h;obtain⟨rfl,rfl,rfl⟩:=h;have hv:=hx x;rw[he]at hv;obtain⟨us,hu,hl,hvu⟩:=hv.sD;have hi:i<us.length:=(by rw[hl];exact(List.getElem?_eq_some_iff.1 hvs).1);rw[hu];refine Out.same hR (u:=us[i]) ?_ (hvu i v us[i] hvs (List.getElem?_eq_getElem hi));simp[Instr.extract,hi]
   ·simp at h
  ·simp at h
 all_goals simp at h
end
inductive App (e:TypeId) (k:Nat) (w:World) (v:Value) (n m:Nat) (all:List Value) (v':Value) (w':World):Prop
 | same (hm:m=0) (hv:v'=v) (hw:w'=w)
 | room (hm:m≠0) (b d cap:Nat) (us us':List Value) (hv:v=.slice (some ⟨b,d,none⟩) n cap) (hv':v'=.slice (some ⟨b,d,none⟩) (n+m) cap) (hh:w.heap[b]? =some (.cells us.toArray e (0,0))) (hh':w'.heap[b]? =some (.cells us'.toArray e (0,0))) (hl:us'.length=us.length) (ht:(us'.drop d).take ((n+m)*k)=all) (hn:n+m≤cap)
   (ho:∀x,x≠b→w'.heap[x]? =w.heap[x]?) (h1:w'.os=w.os) (h2:w'.tape=w.tape) (h3:w'.output=w.output) (h4:w'.heap.size=w.heap.size)
 | new (cap:Nat) (us:List Value) (hv':v'=.slice (some ⟨w.heap.size,0,none⟩) (n+m) cap) (hw:w'=w.drew.alloc (.cells us.toArray e)) (hl:us.length=cap*k) (hn:n+m≤cap) (hc:cap≤maxLen) (ht:us.take ((n+m)*k)=all)
section
variable {P:Program} [Gl P] {E:En} {w:World} {G:Hp} {s:Sl} {a:Act}
theorem PS (t ty e:TypeId) (i:TypeInfo) (ht:P.underlying t=some (.slice e)) (hi:P.info? e=some i)
  (g d sLen sCap:Nat) (cur:Array Value) (hg:w.heap[g]? =some (.cells cur e (0,0)))
  (a:Addr) (m c:Nat) (news:List Value) (hl:news.length=m*i.size) (hnews:∀j u,news[j]? =some u→w.cell? (a.add j)=some u) (h1:∀u∈news,u.oneCell'=true)
  (hroom:sLen+m≤sCap) (hfit:d+sLen*i.size+news.length≤cur.size):
  (Builtin.append_ #[t,t] ty #[.slice (some ⟨g,d,none⟩) sLen sCap,.slice (some a) m c]).run P w=
   .ok (.slice (some ⟨g,d,none⟩) (sLen+m) sCap) (w.setRow g (cur.toList.take (d+sLen*i.size)++news++cur.toList.drop (d+sLen*i.size+news.length)).toArray):=by
 have hf:=run_firstCells_some (P:=P) w i.size m a m c news hl hnews;have hst:=_root_.Go.run_storeCells_at P g (d+sLen*i.size) e news 0 cur w hg (by simpa using hfit) h1;simp only[Nat.add_zero]at hst;simp[Builtin.append_,run_underlying ht,sizeOf,typeInfo,hi,Builtin.lenOf,hroom,hf,Addr.add_lit,hst]
theorem LJ {t ty e k by':Nat} {z:List Value} (hel:elI P t=some (e,k,by',z)) {v:Value} {n:Nat} {xs:List Value}
  (hv:(v=.slice none 0 0∧n=0∧xs=[])∨∃b d cap us B,v=.slice (some B) n cap∧(0<cap→B=⟨b,d,none⟩)∧w.heap[b]? =some (.cells (List.toArray us) e (0,0))∧n≤cap∧cap≤maxLen∧us.length=d+cap*k∧xs=(us.drop d).take (n*k))
  {A:Option Addr} {m c:Nat} {news:List Value} (hl:news.length=m*k) (hs:m=0∨∃ad,A=some ad∧∀j u,news[j]? =some u→w.cell? (ad.add j)=some u) (h1:∀u∈news,u.oneCell'=true)
  (h63:n+m≤maxLen) (hbytes:(n+m)*by'≤140737488355328):
  ∃v' w',(Builtin.append_ #[t,t] ty #[v,.slice A m c]).run P w=.ok v' w'∧App e k w v n m (xs++news) v' w':=by
 obtain⟨hu,ti,zv,hi1,hi2,rfl,rfl,hi5,hi6,hi7,hi8,hi9,hi10,hi11⟩:=iO hel;have h63':n+m≤9223372036854775807:=(by simpa only[maxLen]using h63);by_cases hm:m=0
 ·subst hm;have hnil:∀w:World,(Builtin.firstCells ti.size 0 (.slice A 0 c)).run P w=.ok #[] w:=by
   intro w;cases A<;>simp[Builtin.firstCells,loadCells,loadCellsFrom]
  refine⟨v,w,?_,.same rfl rfl rfl⟩;rcases hv with⟨rfl,rfl,rfl⟩ | ⟨b,d,cap,us,B,rfl,hB,hh,hn,hc,hul,rfl⟩
  ·simp[Builtin.append_,run_underlying hu,hi9,Builtin.lenOf,hnil]
  ·simp[Builtin.append_,run_underlying hu,hi9,Builtin.lenOf,hnil,hn,storeCells]
 ·obtain⟨ad,rfl,hc⟩:=hs.resolve_left hm;have zc:∀c:Nat,(Builtin.zeroCells zv.cells c).toList.length=c*ti.size:=fun c=>(by rw[Array.length_toList,size_zeroCells,hi7]);rcases hv with⟨rfl,rfl,rfl⟩ | ⟨b,d,cap,us,B,rfl,hB,hh,hn,hcm,hul,rfl⟩
  ·have hr:=run_append_nil (P:=P) w t ty e ti zv hu hi1 hi2 ad m c news hl hc (by omega) (by omega) (by simp only[Nat.zero_add]at hbytes;omega);refine⟨_,_,hr,.new (grownCap w m 0 e) (news++(Builtin.zeroCells zv.cells (grownCap w m 0 e-m)).toList) (by simp) ?_ ?_ ?_ ?_ ?_⟩
   ·congr 2;simp
   ·have:=grownCap_ge w m 0 e;rw[List.length_append,zc,hl,←Nat.add_mul];congr 1;omega
   ·simpa using grownCap_ge w m 0 e
   ·exact grownCap_le_maxLen w m 0 e (by omega)
   ·simp only[Nat.zero_add,List.nil_append];rw[←hl,List.take_left]
  ·have hdl:(us.drop d).length=cap*ti.size:=(by rw[List.length_drop,hul];omega);have hxl:((us.drop d).take (n*ti.size)).length=n*ti.size:=(by rw[List.length_take,hdl];exact Nat.min_eq_left (Nat.mul_le_mul_right _ hn));by_cases hroom:n+m≤cap
   ·obtain rfl:=hB (by omega);have hnc:n*ti.size+m*ti.size≤cap*ti.size:=(by rw[←Nat.add_mul];exact Nat.mul_le_mul_right _ hroom);have hfit:d+n*ti.size+news.length≤us.toArray.size:=(by rw[List.size_toArray,hl,hul];omega);have hr:=PS (P:=P) (w:=w) t ty e ti hu hi1 b d n cap us.toArray hh ad m c news hl hc h1 hroom hfit;refine⟨_,_,hr,.room hm b d cap us _ rfl rfl hh (setRow_heap w b _ _ e _ hh) ?_ ?_ hroom (fun x hx=>setRow_other w b x _ hx) rfl rfl rfl (by simp)⟩
    ·rw[List.size_toArray]at hfit;simp;omega
    ·have e1:us.take (d+n*ti.size)=us.take d++(us.drop d).take (n*ti.size):=List.take_add;rw[e1,List.append_assoc,List.append_assoc,List.drop_left' (by rw[List.length_take,hul];omega),←List.append_assoc];have:((us.drop d).take (n*ti.size)++news).length=(n+m)*ti.size:=(by rw[List.length_append,hxl,hl,Nat.add_mul]);rw[←this];exact List.take_left
   ·have holds:∀j u,((us.drop d).take (n*ti.size))[j]? =some u→w.cell? (B.add j)=some u:=fun j u hj=>by
     rw[List.getElem?_take]at hj;split at hj
     ·rename_i hjn;obtain rfl:=hB (by
       rcases Nat.eq_zero_or_pos n with h | h
       ·rw[h,Nat.zero_mul]at hjn;omega
       ·omega)
      rw[List.getElem?_drop]at hj;rw[add_lit,eX hh];simpa using hj
     ·simp at hj
    have hr:=run_append_grow (P:=P) w t ty e ti zv hu hi1 hi2 B n cap _ hxl holds ad m c news hl hc (by omega) (by omega) (growslice_fits (by omega) hbytes);refine⟨_,_,hr,.new (grownCap w (n+m) cap e) ((us.drop d).take (n*ti.size)++news++(Builtin.zeroCells zv.cells (grownCap w (n+m) cap e-(n+m))).toList) rfl ?_ ?_ ?_ ?_ ?_⟩
    ·congr 2;simp
    ·have:=grownCap_ge w (n+m) cap e;rw[List.length_append,List.length_append,zc,hl,hxl,←Nat.add_mul,←Nat.add_mul];congr 1;omega
    ·exact grownCap_ge w (n+m) cap e
    ·exact grownCap_le_maxLen w (n+m) cap e h63
    ·have:((us.drop d).take (n*ti.size)++news).length=(n+m)*ti.size:=(by rw[List.length_append,hxl,hl,Nat.add_mul]);rw[←this];exact List.take_left
end
def mD (P:Program) (G:Hp) (e:TypeId) (k:Nat):AV→Option (Nat×List AV×Option Nat)
 | .v (.slice none 0 0)=>some (0,[],none)
 | .row id n=>match G id with
  | some (.row e' cs)=>if e'=e∧cs.length=n*k then some (n,cs,some id)else none
  | _=>none
 | _=>none
def qx (P:Program) (G:Hp):AV→Option (Nat×List AV)
 | .v (.slice none 0 0)=>some (0,[])
 | a=>match bJ P G a with
  | some (.sl m ms)=>some (m,ms)
  | _=>none
def og (P:Program) (G:Hp) (nx:Nat) (t:TypeId) (b x:AV):Option (AV×Hp×Nat):=
 match elI P t with
 | none=>none
 | some (e,k,by',_)=>match mD P G e k b,qx P G x with
  | some (n,cs,id),some (m,ms)=>if ms.length=m*k∧(n+m)≤9223372036854775807∧(n+m)*by'≤140737488355328 then
    some (.row nx (n+m),(lI G id).upd nx (.row e (cs++ms)),nx+1)else none
  | _,_=>none
section
variable {P:Program} [Gl P] {E:En} {w w':World} {G:Hp} {s:Sl} {a:Act} {nx:Nat}
theorem Ko (hR:Rel P E w G) {x:AV} {u:Value} {m:Nat} {ms:List AV} (hx:VR P E w x u) (h:qx P G x=some (m,ms)) {k:Nat} (hk:0<k) (hl:ms.length=m*k):
  ∃A c,u=.slice A m c∧∃news:List Value,news.length=m*k∧(m=0∨∃ad,A=some ad∧∀j y,news[j]? =some y→w.cell? (ad.add j)=some y)∧(∀y∈news,y.oneCell'=true)∧All2 (TR E.M w) ms news:=by
 have all1:∀ {cs:List AV} {us:List Value},All2 (TR E.M w) cs us→∀y∈us,y.oneCell'=true:=by
  intro cs us h y hy;obtain⟨i,hi,rfl⟩:=List.mem_iff_getElem.1 hy;exact(h.2 i _ _ (List.getElem?_eq_getElem (by have:=h.1;omega)) (List.getElem?_eq_getElem hi)).one
 have mt:∀(A:Option Addr) (c:Nat),m=0→ms=[]→u=.slice A m c→∃A c,u=.slice A m c∧∃news:List Value,news.length=m*k∧(m=0∨∃ad,A=some ad∧∀j y,news[j]? =some y→w.cell? (ad.add j)=some y)∧(∀y∈news,y.oneCell'=true)∧All2 (TR E.M w) ms news:=by
  rintro A c rfl rfl rfl;exact⟨A,c,rfl,[],by simp,.inl rfl,fun y hy=>by simp at hy,.nil⟩
 have m0:ms=[]→m=0:=by
  intro h0;rw[h0,List.length_nil]at hl;rcases Nat.mul_eq_zero.1 hl.symm with h | h
  ·exact h
  ·omega
 cases x with
 | v y=>
  (cases y<;>try (simp[qx,bJ]at h;done));rename_i A n c;cases A with
  | some ad=>simp[qx,bJ]at h
  | none=>
   cases n with
   | succ n=>simp[qx,bJ]at h
   | zero=>
    cases c with
    | succ c=>simp[qx,bJ]at h
    | zero=>
     simp[qx]at h;exact mt none 0 h.1.symm h.2 (by rw[hx.iE.1,←h.1])
 | sl n cs=>
  simp[qx,bJ]at h;obtain⟨rfl,rfl⟩:=h;cases hx.oQ with
  | nil A hn=>exact mt A _ (m0 rfl) rfl rfl
  | @sl _ _ ad cap us hn h0 hb hl' hc hr=>
   exact⟨some ad,cap,rfl,us,by rw[hl',hl],.inr ⟨ad,rfl,hc⟩,all1 ⟨hl',hr⟩,⟨hl',hr⟩⟩
 | row id n=>
  have key:∃e cs,(G id=some (.row e cs)∨G id=some (.frz e cs))∧n*P.cellsOf e≤cs.length∧m=n∧ms=cs.take (n*P.cellsOf e):=by
   simp only[qx,bJ]at h;cases hG:G id with
   | none=>simp[hG]at h
   | some o=>
    cases o<;>simp[hG]at h
    ·rename_i e cs;by_cases hle:n*P.cellsOf e≤cs.length
     ·simp[hle]at h;exact⟨e,cs,.inl rfl,hle,h.1.symm,h.2.symm⟩
     ·simp[hle]at h
    ·rename_i e cs;by_cases hle:n*P.cellsOf e≤cs.length
     ·simp[hle]at h;exact⟨e,cs,.inr rfl,hle,h.1.symm,h.2.symm⟩
     ·simp[hle]at h
  obtain⟨e,cs,hG,hle,rfl,rfl⟩:=key;have hO:(∃b,E.φ id=some b∧∃us:List Value,w.heap[b]? =some (.cells us.toArray e (0,0))∧E.o id+cs.length≤us.length∧∀(i:Nat) a u,cs[i]? =some a→us[E.o id+i]? =some u→TR E.M w a u)∨(E.N id∧cs=[]):=by
   rcases hG with hG | hG
   ·rcases hR.obj id _ hG rfl with h | ⟨hN,e',he⟩
    ·exact .inl h
    ·injection he with _ he;exact .inr ⟨hN,he⟩
   ·rcases hR.obj id _ hG rfl with h | ⟨hN,e',he⟩
    ·exact .inl h
    ·cases he
  rcases hO with⟨b,hφ,us,h3,h4,h5⟩ | ⟨hN,rfl⟩
  ·obtain⟨cap,e',B,rfl,hn,hm,hs,hB⟩:=hx.sQ hφ;have hat:=fun hlt=>hx.CY hφ h3 hlt;generalize E.o id=d at*;have hall:All2 (TR E.M w) (cs.take (m*P.cellsOf e)) ((us.drop d).take (m*P.cellsOf e)):=⟨by rw[List.length_take,List.length_take,List.length_drop];omega,fun i c y hc hy=>by
    rw[List.getElem?_take]at hc hy;split at hc
    ·rename_i hi;rw[if_pos hi,List.getElem?_drop]at hy;exact h5 i c y hc hy
    ·simp at hc⟩
   refine⟨_,cap,rfl,(us.drop d).take (m*P.cellsOf e),by rw[hall.1,hl],.inr ⟨_,rfl,fun j y hy=> ?_⟩,all1 hall,hall⟩;rw[List.getElem?_take]at hy;split at hy
   ·rw[List.getElem?_drop]at hy;obtain⟨cap2,e2,hu2,_⟩:=hat (by rw[List.size_toArray];have:=(List.getElem?_eq_some_iff.1 hy).1;omega);injection hu2 with hu2 _ _;injection hu2 with hu2;subst hu2;rw[add_lit,eX h3];simpa using hy
   ·simp at hy
  ·have:=hx.xA hN;exact mt none 0 this.2 (by simp) (by rw[this.1,this.2])
 | _=>simp[qx,bJ]at h
theorem JB (hR:Rel P E w G) {e k:Nat} {x:AV} {v:Value} {n:Nat} {cs:List AV} {id:Option Nat} (hx:VR P E w x v) (h:mD P G e k x=some (n,cs,id)) (hk:P.cellsOf e=k) (hk0:0<k):
  (∀j,id=some j→∃e0 cs0,G j=some (.row e0 cs0))∧cs.length=n*k∧
  ((v=.slice none 0 0∧n=0∧cs=[])∨∃j b cap us B,id=some j∧E.φ j=some b∧v=.slice (some B) n cap∧(0<cap→B=⟨b,E.o j,none⟩)∧w.heap[b]? =some (.cells (List.toArray us) e (0,0))∧n≤cap∧cap≤maxLen∧us.length=E.o j+cap*k∧All2 (TR E.M w) cs ((us.drop (E.o j)).take (n*k))):=by
 cases x with
 | v y=>
  (cases y<;>try (simp[mD]at h;done));rename_i A n c;cases A with
  | some ad=>simp[mD]at h
  | none=>
   cases n with
   | succ n=>simp[mD]at h
   | zero=>
    cases c with
    | succ c=>simp[mD]at h
    | zero=>
     simp[mD]at h;obtain⟨rfl,rfl,rfl⟩:=h;exact⟨fun j hj=>(by cases hj),by simp,.inl ⟨hx.iE.1,rfl,rfl⟩⟩
 | row j n=>
  simp only[mD]at h;cases hG:G j with
  | none=>simp[hG]at h
  | some o=>
   cases o<;>simp[hG]at h;rename_i e' cs';obtain⟨⟨rfl,hl⟩,rfl,rfl,rfl⟩:=h;refine⟨fun j' hj=>by injection hj with hj;subst hj;exact⟨_,_,hG⟩,hl,?_⟩;rcases hR.obj j _ hG rfl with⟨b,hφ,us,h3,h4,h5⟩ | ⟨hN,e'',he⟩
   ·obtain⟨cap,e'',B,rfl,hn,hm,hs,hB⟩:=hx.sQ hφ;simp only[World.shape?]at hs;rw[h3]at hs;simp at hs;obtain⟨rfl,hs⟩:=hs;rw[hk]at hs;refine .inr ⟨j,b,cap,us,B,rfl,hφ,rfl,hB,h3,hn,hm,hs,?_,fun i c y hc hy=> ?_⟩
    ·have hnk:n*k≤cap*k:=Nat.mul_le_mul_right _ hn;rw[List.length_take,List.length_drop];omega
    ·rw[List.getElem?_take]at hy;split at hy
     ·rw[List.getElem?_drop]at hy;exact h5 i c y hc hy
     ·simp at hy
   ·injection he with _ he;have:=hx.xA hN;exact .inl ⟨this.1,this.2,he⟩
 | _=>simp[mD]at h
theorem Bz (hR:Rel P E w G) (hn:G nx=none) {t ty:TypeId} {x y val:AV} {ux uy:Value} {G':Hp} {nx':Nat} (hx:VR P E w x ux) (hy:VR P E w y uy) (h:og P G nx t x y=some (val,G',nx')):
  ∃v' w' E',(Builtin.append_ #[t,t] ty #[ux,uy]).run P w=.ok v' w'∧VR P E' w' val v'∧Rel P E' w' G'∧Ext E.W w w'∧En.Le w E E':=by
 unfold og at h;split at h
 ·simp at h
 ·rename_i e k by' z hel;obtain⟨hu,ti,zv,hi1,hi2,hi3,hi4,hi5,hi6,hi7,hi8,hi9,hi10,hi11⟩:=iO hel;split at h
  ·rename_i n cs id m ms hb hs;split at h
   ·rename_i hc;obtain⟨hml,h63,hby⟩:=hc;simp only[Option.some.injEq,Prod.mk.injEq]at h;obtain⟨rfl,rfl,rfl⟩:=h;obtain⟨b1,b2,b3⟩:=JB hR hx hb hi11 hi6;obtain⟨A,c,rfl,news,s1,s2,s3,s4⟩:=Ko hR hy hs hi6 hml;have nilcase:∀(v':Value),v'=.slice none 0 0→n+m=0→cs++ms=[]→
      ∃E',VR P E' w (.row nx (n+m)) v'∧Rel P E' w ((lI G id).upd nx (.row e (cs++ms)))∧Ext E.W w w∧En.Le w E E':=by
     rintro v' rfl hnm hcs;obtain⟨r1,r2⟩:=hR.app (b:=none) (e:=e) hn b1 (fun x hx=>by cases hx) (Ext.refl E.W w) (fun _ _ _=>rfl) (fun x hx=>by cases hx) (all:=cs++ms) (fun x hx=>by cases hx) (fun _=>hcs);refine⟨_,.row (show(E.app nx id none).K nx from .inl rfl) rfl (fun b hb=> ?_) (fun _=>⟨rfl,hnm⟩),r1,Ext.refl _ _,r2⟩;simp[En.app]at hb
    have rowcase:∀(v':Value) (w':World) (b d cap:Nat) (us':List Value) (B:Addr),v'=.slice (some B) (n+m) cap→(0<cap→B=⟨b,d,none⟩)→n+m≤cap→cap≤maxLen→us'.length=d+cap*k→w'.heap[b]? =some (.cells us'.toArray e (0,0))→
      All2 (TR E.M w) (cs++ms) ((us'.drop d).take ((n+m)*k))→(w.heap.size≤b∨∃j,id=some j∧E.φ j=some b)→Ext E.W w w'→(∀x,x<w.heap.size→x≠b→w'.heap[x]? =w.heap[x]?)→
      ∃E',VR P E' w' (.row nx (n+m)) v'∧Rel P E' w' ((lI G id).upd nx (.row e (cs++ms)))∧Ext E.W w w'∧En.Le w E E':=by
     rintro v' w' b d cap us' B rfl hB hnc hcm hul hh hall hbb he hoth;have hlt:b<w'.heap.size:=(Array.getElem?_eq_some_iff.1 hh).1;obtain⟨r1,r2⟩:=hR.Vd (d:=d) (b:=some b) (e:=e) hn b1 (fun x hx=>by injection hx with hx;subst hx;exact hbb) he (fun x hx hne=>hoth x hx (fun e=>hne (by rw[e]))) (fun x hx=>by injection hx with hx;subst hx;exact hlt) (all:=cs++ms) (fun x hx=>by
      injection hx with hx;subst hx;refine⟨us',hh,?_,fun i a u ha hu=>hall.2 i a u ha ?_⟩
      ·rw[List.length_append,b2,hml,←Nat.add_mul,hul];exact Nat.add_le_add_left (Nat.mul_le_mul_right _ hnc) d
      ·have hi:i<(cs++ms).length:=(List.getElem?_eq_some_iff.1 ha).1;rw[List.length_append,b2,hml,←Nat.add_mul]at hi;rw[List.getElem?_take,if_pos hi,List.getElem?_drop];exact hu) (fun hx=>by cases hx)
     refine⟨_,.row (show(E.app nx id (some b) d).K nx from .inl rfl) rfl (fun x hx=> ?_) (fun hN=> ?_),r1,he,r2⟩
     ·have e0:(E.app nx id (some b) d).o nx=d:=(by simp[En.app]);rw[e0];simp[En.app]at hx;subst hx;refine⟨cap,e,B,rfl,hnc,hcm,?_,hB⟩;simp only[World.shape?];rw[hh];simp[hul,hi11]
     ·rcases hN with⟨_,h⟩ | ⟨h,_⟩
      ·cases h
      ·exact absurd rfl h
    have hm63:n+m≤maxLen:=(by unfold maxLen;omega);rcases b3 with⟨rfl,rfl,rfl⟩ | ⟨j,b,cap,us,B,rfl,hφ,rfl,hB,hh,hnc,hcm,hul,hall⟩
    ·obtain⟨v',w',hrun,happ⟩:=LJ (ty:=ty) (A:=A) (c:=c) hel (.inl ⟨rfl,rfl,rfl⟩) s1 s2 s3 hm63 hby;cases happ with
     | same hm hv hw=>
      subst hm;have hms:ms=[]:=List.eq_nil_of_length_eq_zero (by simpa using hml);obtain⟨E',q⟩:=nilcase v' hv rfl (by simp[hms]);rw[hw]at hrun;exact⟨v',w,E',hrun,q⟩
     | room _ b d cap us us' hv=>cases hv
     | new cap us hv hw hl hnc hcm ht=>
      have hnew:w'.heap[w.heap.size]? =some (.cells us.toArray e (0,0)):=(by rw[hw];exact heap_alloc_new w.drew _);have hold:∀x,x<w.heap.size→w'.heap[x]? =w.heap[x]? :=fun x hx=>(by rw[hw];exact _root_.Go.heap_alloc_old w.drew _ hx);have he:Ext E.W w w':=⟨by rw[hw];rfl,by rw[hw];rfl,by rw[hw];rfl,by rw[hw];simp,fun x hx _=>hold x hx,fun x hx=>iF (hold x hx)⟩;obtain⟨E',q⟩:=rowcase v' w' _ 0 cap us _ hv (fun _=>rfl) hnc hcm (by omega) hnew (by rw[List.drop_zero,ht];simpa using s4) (.inl (Nat.le_refl _)) he (fun x hx _=>hold x hx);exact⟨v',w',E',hrun,q⟩
    ·obtain⟨v',w',hrun,happ⟩:=LJ (ty:=ty) (A:=A) (c:=c) hel (.inr ⟨b,_,cap,us,B,rfl,hB,hh,hnc,hcm,hul,rfl⟩) s1 s2 s3 hm63 hby;have hWb:E.W b:=by
      obtain⟨e0,cs0,hG⟩:=b1 j rfl;exact(hR.W b).2 ⟨j,_,hφ,hG,rfl⟩
     cases happ with
     | same hm hv hw=>
      subst hm;have hms:ms=[]:=List.eq_nil_of_length_eq_zero (by simpa using hml);subst hms;rw[hw]at hrun;obtain⟨E',q⟩:=rowcase v' w b _ cap us B (by rw[hv];rfl) hB (by simpa using hnc) hcm hul hh (by simpa using hall) (.inr ⟨j,rfl,hφ⟩) (Ext.refl _ _) (fun _ _ _=>rfl);exact⟨v',w,E',hrun,q⟩
     | room hm0 b' d' cap' us0 us' hv hv' hh0 hh' hl ht hnm ho h1 h2 h3 h4=>
      injection hv with hv hv2 hv3;injection hv with hv;subst hv3;rcases Nat.eq_zero_or_pos cap with hc0 | hc0
      ·omega
      have hv0:=hv.symm.trans (hB hc0);injection hv0 with hv0 hvd;cases hv0;cases hvd;rw[hh]at hh0;have hus:us0=us:=(by injection hh0 with hh0;injection hh0 with hh0;exact(congrArg Array.toList hh0).symm);subst hus;have he:Ext E.W w w':=⟨h1,h2,h3,Nat.le_of_eq h4.symm,fun x hx hm=>ho x (fun e=>hm (e▸hWb)),fun x hx=>by
       by_cases hxb:x=b
       ·subst hxb;exact oP hh hh' (by simpa only[List.size_toArray]using hl)
       ·exact iF (ho x hxb)⟩
      obtain⟨E',q⟩:=rowcase v' w' b _ cap us' _ hv' (fun _=>rfl) hnm hcm (hl.trans hul) hh' (by rw[ht];exact hall.app s4) (.inr ⟨j,rfl,hφ⟩) he (fun x _ hx=>ho x hx);exact⟨v',w',E',hrun,q⟩
     | new cap' us' hv hw hl hnm hcm' ht=>
      have hnew:w'.heap[w.heap.size]? =some (.cells us'.toArray e (0,0)):=(by rw[hw];exact heap_alloc_new w.drew _);have hold:∀x,x<w.heap.size→w'.heap[x]? =w.heap[x]? :=fun x hx=>(by rw[hw];exact _root_.Go.heap_alloc_old w.drew _ hx);have he:Ext E.W w w':=⟨by rw[hw];rfl,by rw[hw];rfl,by rw[hw];rfl,by rw[hw];simp,fun x hx _=>hold x hx,fun x hx=>iF (hold x hx)⟩;obtain⟨E',q⟩:=rowcase v' w' _ 0 cap' us' _ hv (fun _=>rfl) hnm hcm' (by omega) hnew (by rw[List.drop_zero,ht];exact hall.app s4) (.inl (Nat.le_refl _)) he (fun x hx _=>hold x hx);exact⟨v',w',E',hrun,q⟩
   ·simp at h
  ·simp at h
end
def PE (P:Program) (t:TypeId):Option (TypeId×TypeDesc×TypeId):=
 match P.underlying t with
 | some (.map key elem)=>match P.underlying key with
  | some .string=>some (key,.string,elem)
  | some (.int k)=>some (key,.int k,elem)
  | some (.struct fs)=>some (key,.struct fs,elem)
  | _=>none
 | _=>none
def Nz (P:Program) (key:TypeId) (d:TypeDesc) (a b:Value):Option Bool:=match d with
 | .struct _=>eqV P 20 key a b
 | d=>Instr.sameNow d a b
def QU:Option TypeDesc→Bool
 | some .string=>true
 | some (.int _)=>true
 | some .bool=>true
 | _=>false
def CX (P:Program) (d:TypeDesc) (k:Value):Bool:=match d,k with
 | .struct fs,.agg xs=>fs.toList.all fun f=>QU (P.underlying f.type)&&(Kq P f.type xs f.offset).isSome
 | .struct _,_=>false
 | _,_=>true
def zvI (P:Program) (t:TypeId):Option AV:=
 match (P.info? t).bind (·.zero)with
 | some (.agg xs)=>if xs.toList.all (·.oneCell')=true then some (.agg (xs.toList.map .v))else none
 | some x=>if x.oneCell'=true then some (.v x)else none
 | none=>none
def qO (P:Program) (key:TypeId) (d:TypeDesc) (k:Value):List (Value×AV)→Nat→Option (Option Nat)
 | [],_=>some none
 | e::es,i=>match Nz P key d k e.1 with
  | some true=>some (some i)
  | some false=>qO P key d k es (i+1)
  | none=>none
def iP (P:Program) (G:Hp) (t:TypeId) (x k:AV) (ok:Bool):Option AV:=
 match PE P t,x,zf k with
 | some (key,d,elem),.mp id,some kv=>match G id,zvI P elem with
  | some (.map es),some z=>if CX P d kv=true then match qO P key d kv es 0 with
   | some (some i)=>match es[i]? with
    | some e=>some (if ok=true then .tup [e.2,.v (.bool true)]else e.2)
    | none=>none
   | some none=>some (if ok=true then .tup [z,.v (.bool false)]else z)
   | none=>none
   else none
  | _,_=>none
 | _,_,_=>none
def TG:Value→Bool
 | .string _=>true
 | .int _ _=>true
 | _=>false
def fK (P:Program) (G:Hp) (t:TypeId) (x k v:AV):Option Hp:=
 match PE P t,x,zf k with
 | some (key,d,_),.mp id,some kv=>match G id with
  | some (.map es)=>if CX P d kv=true then match qO P key d kv es 0 with
   | some (some i)=>if TG kv=true then some (G.upd id (.map (es.set i (kv,v))))else none
   | some none=>some (G.upd id (.map (es++[(kv,v)])))
   | none=>none else none
  | _=>none
 | _,_,_=>none
section
variable {P:Program} [Gl P] {E:En} {w:World} {G:Hp} {s:Sl} {a:Act} {nx:Nat}
theorem VR.NJ {id:Nat} {u:Value} {b:Nat} (h:VR P E w (.mp id) u) (hb:E.φ id=some b):u=.map (some b):=by
 cases h with
 | tree h=>cases h
 | mp _ _ h=>exact h b hb
theorem Cm {t key elem:TypeId} {d:TypeDesc} (h:PE P t=some (key,d,elem)):P.underlying t=some (.map key elem)∧P.underlying key=some d∧((d=.string∨∃k,d=.int k)∨∃fs,d=.struct fs):=by
 unfold PE at h;split at h
 ·rename_i key el hu;split at h
  ·rename_i hk;simp at h;obtain⟨rfl,rfl,rfl⟩:=h;exact⟨hu,hk,.inl (.inl rfl)⟩
  ·rename_i k hk;simp at h;obtain⟨rfl,rfl,rfl⟩:=h;exact⟨hu,hk,.inl (.inr ⟨k,rfl⟩)⟩
  ·rename_i fs hk;simp at h;obtain⟨rfl,rfl,rfl⟩:=h;exact⟨hu,hk,.inr ⟨fs,rfl⟩⟩
  ·cases h
 ·cases h
theorem Lc {t:TypeId} {z:AV} (h:zvI P t=some z):∃v,(∀w,(zeroValue t).run P w=.ok v w)∧VR P E w z v:=by
 unfold zvI at h;cases hi:P.info? t with
 | none=>simp[hi]at h
 | some i=>
  cases hz:i.zero with
  | none=>simp[hi,hz]at h
  | some v=>
   simp only[hi,hz,Option.bind_some]at h;refine⟨v,fun w=>by simp[zeroValue,typeInfo,hi,hz],?_⟩;split at h
   ·rename_i xs hx;injection hx with hx;subst hx;split at h
    ·rename_i hall;injection h with h;subst h;rw[List.all_eq_true]at hall;have:=Et (P:=P) (E:=E) (w:=w) hall;have h2:VR P E w (.agg (xs.toList.map .v)) (.agg xs.toList.toArray):=.agg this.1 this.2 hall;simpa using h2
    ·cases h
   ·rename_i x _ hx;injection hx with hx;subst hx;split at h
    ·rename_i h1;injection h with h;subst h;exact .tree (.v h1)
    ·cases h
   ·cases‹some v=none›
theorem run_pure' {α:Type} (x:α) (w:World):(pure x:Sem α).run P w=.ok x w:=by simp
theorem BI {a b:ByteArray} (h:(a==b)=true):a=b:=by
 cases a with | mk x=>cases b with | mk y=>
 have h':(x==y)=true:=h;rw[eq_of_beq h']
theorem bytes_beq (a:ByteArray):(a==a)=true:=by
 cases a with | mk x=>
 show(x==x)=true;simp
theorem Na {b clock:Nat} {es:Array MapEntry} (h:w.heap[b]? =some (.map es clock)):(getObj b).run P w=.ok (.map es clock) w:=by simp[getObj,Sem.run,h]
theorem QM {b clock:Nat} {es:Array MapEntry} (h:w.heap[b]? =some (.map es clock)) (o':Obj):(setObj b o').run P w=.ok () {w with heap:=w.heap.setIfInBounds b o'} :=by simp[setObj,Sem.run,h]
theorem DY {key:TypeId} {d:TypeDesc} (hk:P.underlying key=some d) (hd:d=.string∨∃k,d=.int k) (e:Bool) (v:Value):(Instr.checkKey e 10000 key v).run P w=.ok () w:=by
 rw[show(10000:Nat)=9999+1 from rfl,Instr.checkKey.eq_def];rcases hd with rfl | ⟨k,rfl⟩<;>simp[run_underlying hk]
def EsR (P:Program) (E:En) (w:World) (es:List (Value×AV)) (ents:List MapEntry):Prop:=ents.length=es.length∧∀(i:Nat) e en,es[i]? =some e→ents[i]? =some en→en.key=e.1∧VR P E w e.2 en.val
theorem Iz {n:Nat} {t:TypeId} (h:QU (P.underlying t)=true) (e:Bool) (v:Value):(Instr.checkKey e (n+1) t v).run P w=.ok () w:=by
 rw[Instr.checkKey.eq_def];cases hu:P.underlying t with
 | none=>rw[hu]at h;cases h
 | some d=>cases d<;>first | (rw[hu]at h;cases h;done) | simp[run_underlying hu]
theorem H7 {α:Type} {g:α→PUnit→Sem (ForInStep PUnit)} :∀(l:List α),(∀x∈l,(g x PUnit.unit).run P w=.ok (.yield PUnit.unit) w)→(forIn l PUnit.unit g:Sem PUnit).run P w=.ok PUnit.unit w
 | [],_=>by simp
 | x::l,h=>by
  rw[List.forIn_cons,Sem.run_bind,h x (by simp)];simp only[Result.andThen_ok];exact H7 l fun y hy=>h y (by simp[hy])
theorem Ak {key:TypeId} {d:TypeDesc} (hk:P.underlying key=some d) (hd:(d=.string∨∃k,d=.int k)∨∃fs,d=.struct fs) (e:Bool) {v:Value} (h:CX P d v=true):(Instr.checkKey e 10000 key v).run P w=.ok () w:=by
 rcases hd with hd | ⟨fs,rfl⟩
 ·exact DY hk hd e v
 ·cases v with
  | agg xs=>
   simp only[CX,List.all_eq_true,Bool.and_eq_true]at h;rw[show(10000:Nat)=9999+1 from rfl,Instr.checkKey.eq_def];simp only[Sem.run_bind,run_underlying hk,Result.andThen_ok];rw[←Array.forIn_toList];rw[H7 fs.toList fun f hf=> ?_]
   ·rfl
   ·obtain⟨h1,h2⟩:=h f hf;obtain⟨v,hv⟩:=Option.isSome_iff_exists.1 h2;by_cases hn:f.name= "_"
    ·simp[hn]
    ·simp only[ne_eq,hn,not_false_eq_true,if_true,Sem.run_bind,su hv,Result.andThen_ok,Iz h1 e v];simp
  | _=>simp[CX]at h
def sG (ents:List MapEntry) (es:List (Value×AV)) (i:Nat) (r:Option Nat) (r':Option (Nat×Value)):Prop:=match r with
 | none=>r'=none
 | some j=>∃e en,i≤j∧es[j-i]? =some e∧ents[j-i]? =some en∧r'=some (j,en.val)
theorem sG.succ {ents:List MapEntry} {es:List (Value×AV)} {en0:MapEntry} {e0:Value×AV} {i:Nat} {r:Option Nat} {r':Option (Nat×Value)} (h:sG ents es (i+1) r r'):sG (en0::ents) (e0::es) i r r':=by
 cases r with
 | none=>exact h
 | some j=>
  obtain⟨e',en',h3,h4,h5,h6⟩:=h;have e1:j-i=(j-(i+1))+1:=(by omega);exact⟨e',en',by omega,by rw[e1];exact h4,by rw[e1];exact h5,h6⟩
theorem EsR.tail {es:List (Value×AV)} {ents:List MapEntry} {e:Value×AV} {en:MapEntry} (h:EsR P E w (e::es) (en::ents)):EsR P E w es ents:=
 ⟨by have:=h.1;simpa using this,fun i e' en' he hen=>h.2 (i+1) e' en' he hen⟩
theorem yQ {key:TypeId} {d:TypeDesc} (hd:d=.string∨∃k,d=.int k) {k:Value} :∀ {es:List (Value×AV)} {ents:List MapEntry} {i:Nat} {r:Option Nat},EsR P E w es ents→qO P key d k es i=some r→
  ∃r',Instr.findNow d k ents i=some r'∧sG ents es i r r'∧(∀j,r=some j→∃e,es[j-i]? =some e∧i≤j∧Instr.sameNow d k e.1=some true)
 | [],ents,i,r,h,hf=>by
  simp[qO]at hf;subst hf;have:ents=[]:=List.eq_nil_of_length_eq_zero (by simpa using h.1);subst this;exact⟨none,rfl,rfl,fun j h=>by cases h⟩
 | e::es,[],i,r,h,hf=>by have:=h.1;simp at this
 | e::es,en::ents,i,r,h,hf=>by
  have h0:=h.2 0 e en rfl rfl;have hs:Nz P key d k e.1=Instr.sameNow d k e.1:=(by rcases hd with rfl | ⟨k,rfl⟩<;>rfl);simp only[qO,hs]at hf;simp only[Instr.findNow,h0.1];split at hf
  ·rename_i hs;injection hf with hf;subst hf;rw[hs];exact⟨_,rfl,⟨e,en,Nat.le_refl _,by simp,by simp,rfl⟩,fun j hj=>by injection hj with hj;subst hj;exact⟨e,by simp,Nat.le_refl _,hs⟩⟩
  ·rename_i hs;rw[hs];obtain⟨r',h1,h2,h3⟩:=yQ hd (es:=es) (ents:=ents) h.tail hf;refine⟨r',h1,h2.succ,fun j hj=> ?_⟩;obtain⟨e',q1,q2,q3⟩:=h3 j hj;have e1:j-i=(j-(i+1))+1:=(by omega);exact⟨e',by rw[e1];exact q1,by omega,q3⟩
  ·cases hf
theorem wB {key:TypeId} {fs:Array Field} {k:Value} :∀ {es:List (Value×AV)} {ents:List MapEntry} {i:Nat} {r:Option Nat},EsR P E w es ents→qO P key (.struct fs) k es i=some r→
  ∃r',(Instr.findAsking key k ents i).run P w=.ok r' w∧sG ents es i r r'
 | [],ents,i,r,h,hf=>by
  simp[qO]at hf;subst hf;have:ents=[]:=List.eq_nil_of_length_eq_zero (by simpa using h.1);subst this;exact⟨none,by simp[Instr.findAsking],rfl⟩
 | e::es,[],i,r,h,hf=>by have:=h.1;simp at this
 | e::es,en::ents,i,r,h,hf=>by
  have h0:=h.2 0 e en rfl rfl;simp only[qO]at hf;have heq:∀b,Nz P key (.struct fs) k e.1=some b→(Op.equal key k en.key).run P w=.ok b w:=fun b hb=>by
   rw[h0.1];exact vP 20 _ key k e.1 b (by decide) hb
  split at hf
  ·rename_i hs;injection hf with hf;subst hf;exact⟨some (i,en.val),by simp[Instr.findAsking,Sem.run_bind,heq _ hs,Result.andThen],⟨e,en,Nat.le_refl _,by simp,by simp,rfl⟩⟩
  ·rename_i hs;obtain⟨r',h1,h2⟩:=wB (es:=es) (ents:=ents) h.tail hf;exact⟨r',by simp[Instr.findAsking,Sem.run_bind,heq _ hs,Result.andThen,h1],h2.succ⟩
  ·cases hf
theorem jS {key:TypeId} {d:TypeDesc} (hk:P.underlying key=some d) (hd:(d=.string∨∃k,d=.int k)∨∃fs,d=.struct fs) {k:Value} {es:List (Value×AV)} {ents:List MapEntry} {r:Option Nat} (h:EsR P E w es ents) (hf:qO P key d k es 0=some r):
  ∃r',(Instr.findKey key k ents).run P w=.ok r' w∧sG ents es 0 r r'∧((d=.string∨∃k,d=.int k)→∀j,r=some j→∃e,es[j]? =some e∧Instr.sameNow d k e.1=some true):=by
 rcases hd with hd | ⟨fs,rfl⟩
 ·obtain⟨r',h1,h2,h3⟩:=yQ hd h hf;refine⟨r',by simp[Instr.findKey,Sem.run_bind,run_underlying hk,Result.andThen,h1],h2,fun _ j hj=> ?_⟩;obtain⟨e,q1,_,q2⟩:=h3 j hj;exact⟨e,by simpa using q1,q2⟩
 ·obtain⟨r',h1,h2⟩:=wB h hf;refine⟨r',?_,h2,fun hd=>by rcases hd with hd | ⟨k,hd⟩<;>cases hd⟩;cases ents with
  | nil=>simp[Instr.findAsking]at h1;subst h1;simp[Instr.findKey,Sem.run_bind,run_underlying hk,Result.andThen,Instr.findNow]
  | cons en ents=>simp[Instr.findKey,Sem.run_bind,run_underlying hk,Result.andThen,Instr.findNow,Instr.sameNow,h1]
theorem Bv (hR:Rel P E w G) {t:TypeId} {x k v:AV} {ux uk:Value} {ok:Bool} (hx:VR P E w x ux) (hk:VR P E w k uk) (h:iP P G t x k ok=some v):
  ∃u,(Instr.lookup t ux uk ok).run P w=.ok u w∧VR P E w v u:=by
 unfold iP at h;split at h
 ·rename_i key d elem id kv hm hkc;split at h
  ·rename_i es z hG hz;obtain⟨hu,hkey,hd⟩:=Cm hm;obtain⟨b,hφ,ents,clock,h1,h2,h3,h4,h5⟩:=hR.FY hG rfl (fun e he=>by cases he);have hux:=hx.NJ hφ;have huk:=lD hk hkc;subst hux;subst huk;obtain⟨vz,hzr,hzv⟩:=Lc (E:=E) (w:=w) hz;have hes:EsR P E w es ents.toList:=⟨by simpa using h2,fun i e en he hen=>h3 i e en he (by simpa using hen)⟩;split at h
   case isFalse=>cases h
   rename_i hok;have hrun:∀r',(Instr.findKey key uk ents.toList).run P w=.ok r' w→(Instr.lookup t (.map (some b)) uk ok).run P w=.ok (match r' with
     | some (_,v)=>if ok then .tuple #[v,.bool true]else v
     | none=>if ok then .tuple #[vz,.bool false]else vz) w:=by
    intro r' hr';unfold Instr.lookup;have hg:=Na (P:=P) h1;simp only[Sem.run_bind,run_underlying hu,Result.andThen,hg];simp only[Ak hkey hd _ hok,hr',Sem.run_bind,Result.andThen,run_pure'];cases r' with
    | none=>simp[hzr]
    | some q=>obtain⟨i,v⟩:=q;simp
   split at h
   ·rename_i i hf;obtain⟨r',hf',⟨e,en,_,he,hen,rfl⟩,_⟩:=jS hkey hd hes hf;rw[Nat.sub_zero]at he hen;rw[he]at h;injection h with h;subst h;refine⟨_,hrun _ hf',?_⟩;have hv:=(hes.2 i e en he hen).2;cases ok with
    | true=>exact .tup (us:=[en.val,.bool true]) rfl (fun j c u hc hu=>by
      match j,hc,hu with
      | 0,hc,hu=>simp at hc hu;subst hc;subst hu;exact hv
      | 1,hc,hu=>simp at hc hu;subst hc;subst hu;exact .tree (.v rfl)
      | j+2,hc,hu=>simp at hc)
    | false=>exact hv
   ·rename_i hf;obtain⟨r',hf',hnone,_⟩:=jS hkey hd hes hf;have hnone:r'=none:=hnone;subst hnone;injection h with h;subst h;refine⟨_,hrun _ hf',?_⟩;cases ok with
    | true=>exact .tup (us:=[vz,.bool false]) rfl (fun j c u hc hu=>by
      match j,hc,hu with
      | 0,hc,hu=>simp at hc hu;subst hc;subst hu;exact hzv
      | 1,hc,hu=>simp at hc hu;subst hc;subst hu;exact .tree (.v rfl)
      | j+2,hc,hu=>simp at hc)
    | false=>exact hzv
   ·cases h
  ·cases h
 ·cases h
theorem Tf {b:Nat} {o o':Obj} (hW:E.W b) (h:w.heap[b]? =some o) (hs:({w with heap:=w.heap.setIfInBounds b o'} :World).shape? b=w.shape? b):Ext E.W w {w with heap:=w.heap.setIfInBounds b o'} :=by
 refine⟨rfl,rfl,rfl,by simp,fun x hx hn=> ?_,fun x hx=> ?_⟩
 ·exact Array.getElem?_setIfInBounds_ne (fun e=>hn (by rw[←e];exact hW))
 ·by_cases hxb:x=b
  ·rw[hxb];exact hs
  ·refine iF ?_;exact Array.getElem?_setIfInBounds_ne (fun e=>hxb e.symm)
theorem OG {d:TypeDesc} {k k':Value} (h:Instr.sameNow d k k'=some true) (hk:TG k=true):(Instr.keyThatStays k' k).run P w=.ok k w:=by
 have:Instr.sameBits 10000 k' k=true:=by
  cases k<;>simp[TG]at hk<;>cases k'<;>cases d<;>simp[Instr.sameNow]at h
  ·obtain⟨rfl,rfl⟩:=h;simp[Instr.sameBits]
  ·have:=BI h;subst this;simp[Instr.sameBits,bytes_beq]
 simp[Instr.keyThatStays,this]
theorem nG (hR:Rel P E w G) {t:TypeId} {x k v:AV} {ux uk uv:Value} {G':Hp} (hx:VR P E w x ux) (hk:VR P E w k uk) (hv:VR P E w v uv) (h:fK P G t x k v=some G'):
  ∃w',(Instr.mapUpdate t ux uk uv).run P w=.ok () w'∧Rel P E w' G'∧Ext E.W w w':=by
 unfold fK at h;split at h
 ·rename_i key d elem id kv hm hkc;split at h
  ·rename_i es hG;split at h
   ·rename_i hok;obtain⟨hu,hkey,hd⟩:=Cm hm;obtain⟨b,hφ,ents,clock,h1,h2,h3,h4,h5⟩:=hR.FY hG rfl (fun e he=>by cases he);have hux:=hx.NJ hφ;have huk:=lD hk hkc;subst hux;subst huk;have hW:E.W b:=(hR.W b).2 ⟨id,_,hφ,hG,rfl⟩;have hlt:=hR.lt id b hφ;have hes:EsR P E w es ents.toList:=⟨by simpa using h2,fun i e en he hen=>h3 i e en he (by simpa using hen)⟩;have fin:∀(es':List (Value×AV)) (ents':Array MapEntry) (clock':Nat),(Instr.mapUpdate t (.map (some b)) uk uv).run P w=.ok () {w with heap:=w.heap.setIfInBounds b (.map ents' clock')} →
      ents'.size=es'.length→(∀(i:Nat) e en,es'[i]? =some e→ents'[i]? =some en→en.key=e.1∧VR P E w e.2 en.val)→(ents'.toList.map (·.born)).Nodup→(∀en∈ents'.toList,en.born<clock')→G'=G.upd id (.map es')→
      ∃w',(Instr.mapUpdate t (.map (some b)) uk uv).run P w=.ok () w'∧Rel P E w' G'∧Ext E.W w w':=by
     intro es' ents' clock' hrun q1 q2 q3 q4 hG';have hnew:({w with heap:=w.heap.setIfInBounds b (.map ents' clock')} :World).heap[b]? =some (.map ents' clock'):=(by simp[hlt]);have hext:Ext E.W w {w with heap:=w.heap.setIfInBounds b (.map ents' clock')} :=Tf hW h1 (by simp only[World.shape?,hnew,h1]);refine⟨_,hrun,?_,hext⟩;rw[hG'];exact hR.put hφ hG rfl rfl hext (fun j hj=>Array.getElem?_setIfInBounds_ne (fun e=>hj e.symm)) ⟨ents',clock',hnew,q1,fun i e en he hen=>⟨(q2 i e en he hen).1,(q2 i e en he hen).2.ext hext (En.Le.refl _ _)⟩,q3,q4⟩
    split at h
    ·rename_i i hf;obtain⟨r',hf',⟨e,en,_,he,hen,rfl⟩,hsm⟩:=jS hkey hd hes hf;rw[Nat.sub_zero]at he hen;split at h
     case isFalse=>cases h
     rename_i hkA;injection h with h;have hsame:Instr.sameNow d uk e.1=some true:=by
      rcases hd with hd | ⟨fs,rfl⟩
      ·obtain⟨e',q1,q2⟩:=hsm hd i rfl;rw[he]at q1;injection q1 with q1;subst q1;exact q2
      ·exfalso;cases uk<;>simp[TG]at hkA<;>simp[CX]at hok
     have hen':ents[i]? =some en:=(by simpa using hen);have hkey1:en.key=e.1:=(hes.2 i e en he hen).1;have hi:i<ents.size:=(Array.getElem?_eq_some_iff.1 hen').1;have hget:ents[i]=en:=(Array.getElem?_eq_some_iff.1 hen').2;refine fin (es.set i (uk,v)) (ents.set i {en with key:=uk,val:=uv} hi) clock ?_ (by simpa using h2) (fun j e' en' he' hen''=> ?_) ?_ (fun x hx=> ?_) h.symm
     ·have hstay:(Instr.keyThatStays en.key uk).run P w=.ok uk w:=(by rw[hkey1];exact OG hsame hkA);have hmod:(ents.modify i fun e=> {e with key:=uk,val:=uv})=ents.set i {en with key:=uk,val:=uv} hi:=by
       apply Array.ext
       ·simp
       ·intro j h1 h2;rw[Array.getElem_modify,Array.getElem_set];split
        ·rename_i hij;subst hij;rw[hget]
        ·rfl
      have hg:=Na (P:=P) h1;have hp:=QM (P:=P) h1;unfold Instr.mapUpdate;simp only[Sem.run_bind,run_underlying hu,Result.andThen,hg];simp only[Ak hkey hd _ hok,hf',Sem.run_bind,Result.andThen,run_pure'];simp only[run_pure',hen',Option.map_some,Option.getD_some,hstay,Sem.run_bind,Result.andThen,hp];rw[hmod]
     ·rw[Array.getElem?_set]at hen'';rw[List.getElem?_set]at he';by_cases hij:i=j
      ·subst hij;rw[if_pos rfl]at hen'';rw[if_pos rfl,if_pos (by omega)]at he';injection hen'' with hen'';injection he' with he';subst hen'';subst he';exact⟨rfl,hv⟩
      ·rw[if_neg hij]at hen'' he';exact h3 j e' en' he' hen''
     ·have:(ents.set i {en with key:=uk,val:=uv} hi).toList.map (·.born)=ents.toList.map (·.born):=by
       apply List.ext_getElem?;intro j;simp only[List.getElem?_map,Array.toList_set,List.getElem?_set];split
       ·rename_i hij;subst hij;split
        ·simp[hen]
        ·rename_i hn;simp at hn;omega
       ·rfl
      rw[this];exact h4
     ·rw[Array.toList_set]at hx;rcases List.mem_or_eq_of_mem_set hx with hx | rfl
      ·exact h5 x hx
      ·exact h5 en (List.mem_of_getElem? hen)
    ·rename_i hf;obtain⟨r',hf',hnone,_⟩:=jS hkey hd hes hf;have hnone:r'=none:=hnone;subst hnone;injection h with h;refine fin (es++[(uk,v)]) (ents.push {key:=uk,val:=uv,born:=clock}) (clock+1) ?_ (by simp[h2]) (fun j e' en' he' hen''=> ?_) ?_ (fun x hx=> ?_) h.symm
     ·have hg:=Na (P:=P) h1;have hp:=QM (P:=P) h1;unfold Instr.mapUpdate;simp only[Sem.run_bind,run_underlying hu,Result.andThen,hg];simp only[Ak hkey hd _ hok,hf',Sem.run_bind,Result.andThen,run_pure'];simp only[run_pure',Sem.run_bind,Result.andThen,hp]
     ·rw[Array.getElem?_push]at hen'';rw[List.getElem?_append]at he';by_cases hj:j=ents.size
      ·subst hj;rw[if_pos rfl]at hen'';rw[if_neg (by omega),h2,Nat.sub_self]at he';injection hen'' with hen'';injection he' with he';subst hen'';subst he';exact⟨rfl,hv⟩
      ·rw[if_neg hj]at hen'';have hlt':=(Array.getElem?_eq_some_iff.1 hen'').1;rw[if_pos (by omega)]at he';exact h3 j e' en' he' hen''
     ·rw[Array.toList_push,List.map_append,List.nodup_append];refine⟨h4,by simp,fun a ha b hb=> ?_⟩;simp at hb;obtain⟨en,hen,rfl⟩:=List.mem_map.1 ha;have:=h5 en hen;omega
     ·rw[Array.toList_push]at hx;rcases List.mem_append.1 hx with hx | hx
      ·have:=h5 x hx;omega
      ·simp at hx;subst hx;simp
    ·cases h
   ·cases h
  ·cases h
 ·cases h
end
abbrev Js:=List (TypeId×List AV)
def ofJ (J:Js):Hp:=fun i=>(J[i]?).map fun p=> .row p.1 p.2
def En.zero (F:Nat→Prop):En:= {φ:=fun _=>none,K:=fun _=>False,W:=fun _=>False,F:=F,N:=fun _=>False,o:=fun _=>0}
def vO (k:Nat):AV→AV
 | .row i n=> .row (i+k) n
 | a=>a
def CV (k:Nat):AV→AV
 | .agg cs=> .agg (cs.map (vO k))
 | a=>vO k a
def shiftT (k:Nat):AV→AV
 | .tup vs=> .tup (vs.map (CV k))
 | a=>CV k a
def ok1:AV→Bool
 | .any | .v _ | .sl _ _ | .row _ _=>true
 | _=>false
def okA:AV→Bool
 | .agg cs=>cs.all ok1
 | a=>ok1 a
def okT:AV→Bool
 | .tup vs=>vs.all okA
 | a=>okA a
def FB:AV→Bool
 | .any=>true
 | .v (.int _ _) | .v (.bool _) | .v (.string _)=>true
 | _=>false
def BR:AV→Bool
 | .tup vs=>vs.all FB
 | a=>FB a
def Oy:AV→Bool
 | .any | .v _ | .row _ _=>true
 | _=>false
def I8:AV→Bool
 | .agg cs=>cs.all Oy
 | a=>Oy a
def flatR:AV→Bool
 | .tup vs=>vs.all I8
 | a=>I8 a
def nH:AV→Bool
 | .v _=>true
 | _=>false
def flatJ (J:Js):Bool:=J.all fun p=>p.2.all nH
theorem KP {r:AV} (h:BR r=true) (nx:Nat):flatR r=true∧shiftT nx r=r:=by
 have one:∀a,FB a=true→I8 a=true∧CV nx a=a:=fun a ha=>by
  cases a<;>simp[FB]at ha<;>exact⟨rfl,rfl⟩
 cases r with
 | tup vs=>
  simp only[BR,List.all_eq_true]at h;refine⟨?_,?_⟩
  ·simp only[flatR,List.all_eq_true];exact fun a ha=>(one a (h a ha)).1
  ·simp only[shiftT];congr 1;exact(List.map_congr_left fun a ha=>(one a (h a ha)).2).trans (List.map_id _)
 | _=>exact one _ (by simpa only[BR]using h)
def addJ (G:Hp) (nx:Nat) (J:Js):Hp:=fun i=>if nx≤i∧i-nx<J.length then ofJ J (i-nx)else G i
theorem dO (G:Hp) (nx:Nat):addJ G nx []=G:=by funext i;simp[addJ]
theorem bK (G:Hp) (nx:Nat) (p:TypeId×List AV):addJ G nx [p]=G.upd nx (.row p.1 p.2):=by
 funext i;simp only[addJ,Hp.upd,List.length_singleton];by_cases h:i=nx
 ·subst h;simp[ofJ]
 ·rw[if_neg (by omega),if_neg h]
def CallsOK (P:Program) [Gl P] (f:FuncId) (args:List AV) (r:AV) (J:Js):Prop:=
 okT r=true∧(∀args w,(callFunc f args).run P w=.ok (.enter f args) w)∧∀(w:World) (us:List Value) (F:Nat→Prop),(∀b,F b→b<w.heap.size)→(∀w',ExtC (fun _=>False) w w'→Gl.ok P w')→All2 (VR P (En.zero F) w) args us→
  Calls P f us.toArray w fun e w'=>∃u E',e=.returned u∧VR P E' w' r u∧Rel P E' w' (ofJ J)∧E'.F=F∧Below w.heap.size w w'∧∀i b,E'.φ i=some b→w.heap.size≤b
section
variable {P:Program} [Gl P] {E:En} {w w':World} {G:Hp} {nx:Nat}
def En.imp (E E':En) (nx:Nat) (J:Js):En:=
 {φ:=fun i=>if nx≤i∧i-nx<J.length then E'.φ (i-nx)else E.φ i,K:=fun i=>(nx≤i∧i-nx<J.length)∨E.K i,W:=fun b=>E.W b∨E'.W b,F:=E.F,
  N:=fun i=>if nx≤i∧i-nx<J.length then E'.N (i-nx)else E.N i,
  o:=fun i=>if nx≤i∧i-nx<J.length then E'.o (i-nx)else E.o i}
theorem Tt {E':En} {J:Js} (hF:E'.F=E.M):∀b,(E.imp E' nx J).M b↔E'.M b:=fun b=>by
 simp only[En.M,En.imp,hF];constructor
 ·rintro(h | h | h)
  ·exact .inl (.inl h)
  ·exact .inl (.inr h)
  ·exact .inr h
 ·rintro((h | h) | h)
  ·exact .inl h
  ·exact .inr (.inl h)
  ·exact .inr (.inr h)
theorem TR.rW {M M':Nat→Prop} {a:AV} {u:Value} (h:TR M w a u) (hM:∀b,M' b→M b):TR M' w a u:=h.ext (Ext.refl M w) (fun b _ hb=>hM b hb)
theorem MO {E':En} {J:Js} (hR':Rel P E' w (ofJ J)) (hF:E'.F=E.M) {a:AV} {u:Value} (ho:ok1 a=true) (h:VR P E' w a u):VR P (E.imp E' nx J) w (vO nx a) u:=by
 cases a with
 | any=>exact .any u
 | row i n=>
  have hK:i<J.length:=by
   cases h with
   | tree h=>cases h
   | row hK _ _ _=>
    obtain⟨o,ho⟩:=(hR'.K i).1 hK;simp only[ofJ]at ho;rcases Nat.lt_or_ge i J.length with h | h
    ·exact h
    ·rw[List.getElem?_eq_none h]at ho;cases ho
  have hc:nx≤i+nx∧i+nx-nx<J.length:=⟨by omega,by omega⟩;have e1:i+nx-nx=i:=(by omega);have e2:(E.imp E' nx J).o (i+nx)=E'.o i:=by
   show(if nx≤i+nx∧i+nx-nx<J.length then E'.o (i+nx-nx)else E.o (i+nx))=_;rw[if_pos hc,e1]
  cases h with
  | tree h=>cases h
  | row _ h1 h2 h3=>
   refine .row (show(E.imp E' nx J).K (i+nx) from .inl hc) h1 (fun b hb=>by rw[e2];exact h2 b (by
    have hb':(if nx≤i+nx∧i+nx-nx<J.length then E'.φ (i+nx-nx)else E.φ (i+nx))=some b:=hb;rw[if_pos hc,e1]at hb';exact hb')) (fun hN=>h3 ?_)
   ·have hN':(if nx≤i+nx∧i+nx-nx<J.length then E'.N (i+nx-nx)else E.N (i+nx)):=hN;rw[if_pos hc,e1]at hN';exact hN'
 | v x=>
  cases h with
  | tree h=>exact .tree (h.rW fun b hb=>(Tt hF b).1 hb)
 | sl n cs=>
  cases h with
  | tree h=>exact .tree (h.rW fun b hb=>(Tt hF b).1 hb)
 | _=>simp[ok1]at ho
theorem Mc {E':En} {J:Js} (hR':Rel P E' w (ofJ J)) (hF:E'.F=E.M) {a:AV} {u:Value} (ho:okA a=true) (h:VR P E' w a u):VR P (E.imp E' nx J) w (CV nx a) u:=by
 cases a with
 | agg cs=>
  obtain⟨us,rfl,hl,hv,h1⟩:=h.jO;simp only[okA,List.all_eq_true]at ho;refine .agg (by simpa using hl) (fun i c x hc hx=> ?_) h1;rw[List.getElem?_map]at hc;obtain⟨c',hc',rfl⟩:=Option.map_eq_some_iff.1 hc;exact MO hR' hF (ho c' (List.mem_of_getElem? hc')) (hv i c' x hc' hx)
 | _=>exact MO hR' hF (by simpa only[okA]using ho) h
theorem N8 {E':En} {J:Js} (hR':Rel P E' w (ofJ J)) (hF:E'.F=E.M) {a:AV} {u:Value} (ho:okT a=true) (h:VR P E' w a u):VR P (E.imp E' nx J) w (shiftT nx a) u:=by
 cases a with
 | tup cs=>
  obtain⟨us,rfl,hl,hv⟩:=h.sD;simp only[okT,List.all_eq_true]at ho;refine .tup (by simpa using hl) (fun i c x hc hx=> ?_);rw[List.getElem?_map]at hc;obtain⟨c',hc',rfl⟩:=Option.map_eq_some_iff.1 hc;exact Mc hR' hF (ho c' (List.mem_of_getElem? hc')) (hv i c' x hc' hx)
 | _=>exact Mc hR' hF (by simpa only[okT]using ho) h
theorem Rel.imp (hR:Rel P E w G) {E':En} {J:Js} (hn:∀i,nx≤i∧i-nx<J.length→G i=none) (hR':Rel P E' w' (ofJ J)) (hF:E'.F=E.M) (hb:Below w.heap.size w w') (hge:∀i b,E'.φ i=some b→w.heap.size≤b):
  Rel P (E.imp E' nx J) w' (addJ G nx J)∧Ext E.W w w'∧En.Le w E (E.imp E' nx J):=by
 have he:Ext E.W w w':=Ext.of_below _ hb;have hnK:∀i,nx≤i∧i-nx<J.length→¬E.K i:=fun i hi hK=>(by obtain⟨o,ho⟩:=(hR.K i).1 hK;rw[hn i hi]at ho;cases ho);have hW':∀b,E'.W b→w.heap.size≤b:=fun b hb=>(by obtain⟨i,o,h1,_⟩:=(hR'.W b).1 hb;exact hge i b h1);have hle:En.Le w E (E.imp E' nx J):=by
  refine⟨fun i h=> .inr h,fun i b hK h=> ?_,fun b hb h=> ?_,rfl,fun i hK h=> ?_,fun i b hb h=> ?_,fun i hK=> ?_⟩
  ·have:¬(nx≤i∧i-nx<J.length):=fun h=>hnK i h hK;simpa only[En.imp,if_neg this]using h
  ·rcases h with h | h
   ·exact h
   ·have:=hW' b h;omega
  ·have:¬(nx≤i∧i-nx<J.length):=fun h=>hnK i h hK;simpa only[En.imp,if_neg this]using h
  ·simp only[En.imp]at h;split at h
   ·have:=hge _ b h;omega
   ·exact⟨i,h⟩
  ·have:¬(nx≤i∧i-nx<J.length):=fun h=>hnK i h hK;simp only[En.imp,if_neg this]
 have hJK:∀i,E'.K i↔i<J.length:=fun i=>by
  rw[hR'.K i];simp only[ofJ];constructor
  ·rintro⟨o,ho⟩;rcases Nat.lt_or_ge i J.length with h | h
   ·exact h
   ·rw[List.getElem?_eq_none h]at ho;cases ho
  ·intro h;rw[List.getElem?_eq_getElem h];exact⟨_,rfl⟩
 refine⟨⟨fun i j x hi hj=> ?_,fun i x hi=> ?_,fun i x hi=> ?_,fun i o hi ha=> ?_,fun i=> ?_,fun x=> ?_,fun i x hi hFx=> ?_,fun x hFx=>Nat.lt_of_lt_of_le (hR.Flt x hFx) he.size,fun w'' h'=>hR.good w'' (he.after hle h')⟩,he,hle⟩
 ·simp only[En.imp]at hi hj;split at hi<;>split at hj
  ·rename_i h1 h2;have:=hR'.inj _ _ x hi hj;omega
  ·have h1:=hge _ x hi;have h2:=hR.lt _ x hj;omega
  ·have h1:=hge _ x hj;have h2:=hR.lt _ x hi;omega
  ·exact hR.inj i j x hi hj
 ·simp only[En.imp]at hi;split at hi
  ·rename_i h1;obtain⟨o,h2,h3⟩:=hR'.dom _ x hi;exact⟨o,by simp only[addJ,if_pos h1];exact h2,h3⟩
  ·rename_i h1;obtain⟨o,h2,h3⟩:=hR.dom i x hi;exact⟨o,by simp only[addJ,if_neg h1];exact h2,h3⟩
 ·simp only[En.imp]at hi;split at hi
  ·exact hR'.lt _ x hi
  ·exact Nat.lt_of_lt_of_le (hR.lt i x hi) he.size
 ·simp only[addJ]at hi;split at hi
  ·rename_i h1;rcases hR'.obj _ o hi ha with⟨b,hφ,hO⟩ | ⟨hN,hE⟩
   ·refine .inl ⟨b,by simp only[En.imp,if_pos h1];exact hφ,?_⟩;have ho:∃e cs,o=.row e cs:=by
     simp only[ofJ]at hi;obtain⟨p,_,rfl⟩:=Option.map_eq_some_iff.1 hi;exact⟨_,_,rfl⟩
    obtain⟨e,cs,rfl⟩:=ho;obtain⟨us,q1,q2,q3⟩:=hO;have e0:(E.imp E' nx J).o i=E'.o (i-nx):=(by simp only[En.imp,if_pos h1]);rw[e0];exact⟨us,q1,q2,fun i a u ha hu=>(q3 i a u ha hu).rW fun b hb=>(Tt hF b).1 hb⟩
   ·exact .inr ⟨by simp only[En.imp,if_pos h1];exact hN,hE⟩
  ·rename_i h1;rcases hR.obj i o hi ha with⟨b,hφ,hO⟩ | ⟨hN,hE⟩
   ·exact .inl ⟨b,by simp only[En.imp,if_neg h1];exact hφ,hO.ext he hle (hle.o i ((hR.K i).2 ⟨_,hi⟩)) (hb.block b (hR.lt i b hφ))⟩
   ·exact .inr ⟨by simp only[En.imp,if_neg h1];exact hN,hE⟩
 ·simp only[En.imp,addJ];by_cases h1:nx≤i∧i-nx<J.length
  ·rw[if_pos h1];simp only[h1,true_or,and_self,true_iff];exact(hR'.K _).1 ((hJK _).2 h1.2)
  ·rw[if_neg h1];simp only[h1,false_or];exact hR.K i
 ·constructor
  ·rintro(h | h)
   ·obtain⟨i,o,h1,h2,h3⟩:=(hR.W x).1 h;have h4:¬(nx≤i∧i-nx<J.length):=fun h=>(by rw[hn i h]at h2;cases h2);exact⟨i,o,by simp only[En.imp,if_neg h4];exact h1,by simp only[addJ,if_neg h4];exact h2,h3⟩
   ·obtain⟨i,o,h1,h2,h3⟩:=(hR'.W x).1 h;have hi:i<J.length:=(hJK i).1 ((hR'.K i).2 ⟨o,h2⟩);have hc:nx≤i+nx∧i+nx-nx<J.length:=⟨by omega,by omega⟩;have e1:i+nx-nx=i:=(by omega);refine⟨i+nx,o,?_,?_,h3⟩
    ·show(if nx≤i+nx∧i+nx-nx<J.length then E'.φ (i+nx-nx)else E.φ (i+nx))=some x;rw[if_pos hc,e1];exact h1
    ·show(if nx≤i+nx∧i+nx-nx<J.length then ofJ J (i+nx-nx)else G (i+nx))=some o;rw[if_pos hc,e1];exact h2
  ·rintro⟨i,o,h1,h2,h3⟩;simp only[En.imp]at h1;simp only[addJ]at h2;split at h1
   ·rename_i h4;rw[if_pos h4]at h2;exact .inr ((hR'.W x).2 ⟨_,o,h1,h2,h3⟩)
   ·rename_i h4;rw[if_neg h4]at h2;exact .inl ((hR.W x).2 ⟨_,o,h1,h2,h3⟩)
 ·simp only[En.imp]at hi;split at hi
  ·have h1:=hge _ x hi;have h2:=hR.Flt x hFx;omega
  ·exact hR.nF i x hi hFx
end
def argsOf (P:Program):Hp→List AV→Option (List AV×Hp)
 | G,[]=>some ([],G)
 | G,a::r=>match a with
  | .agg cs=>match bY P G cs with
   | some (ts,G1)=>match argsOf P G1 r with
    | some (rs,G2)=>some (.agg ts::rs,G2)
    | none=>none
   | none=>none
  | a=>match bJ P G a,argsOf P (bT G a) r with
   | some t,some (rs,G2)=>some (t::rs,G2)
   | _,_=>none
section
variable {P:Program} [Gl P] {E:En} {w:World} {G:Hp} {nx:Nat}
theorem VR.zero {F:Nat→Prop} {a:AV} {u:Value} (h:TR F w a u):VR P (En.zero F) w a u:=.tree (h.rW fun b hb=>by
 rcases hb with hb | hb
 ·exact hb
 ·exact hb.elim)
theorem Ih {F:Nat→Prop} {cs:List AV} {us:List Value} (h:All2 (TR F w) cs us):VR P (En.zero F) w (.agg cs) (.agg us.toArray):=
 .agg h.1 (fun i a u ha hu=> .zero (h.2 i a u ha hu)) (fun u hu=>by
  obtain⟨i,hi,rfl⟩:=List.mem_iff_getElem.1 hu;exact(h.2 i _ _ (List.getElem?_eq_getElem (by have:=h.1;omega)) (List.getElem?_eq_getElem hi)).one)
theorem VR.Nv {F F':Nat→Prop} {a:AV} {u:Value} (hF:∀b,F' b→F b) (h:VR P (En.zero F) w a u):VR P (En.zero F') w a u:=by
 induction h with
 | any u=>exact .any u
 | und=>exact .und
 | tree h=>exact .tree (h.rW fun b hb=>by
   rcases hb with hb | hb
   ·exact .inl (hF b hb)
   ·exact hb.elim)
 | agg hl h h1 ih=>exact .agg hl ih h1
 | tup hl h ih=>exact .tup hl ih
 | ptr hK h1 h=>exact hK.elim
 | row hK h1 h hN=>exact hK.elim
 | ea h0 h1 h ih=>exact .ea ih h1 h
 | mp hK h1 h=>exact hK.elim
 | fn hl h ih=>exact .fn hl ih
 | mt hl h ih=>exact .mt hl ih
 | bl b=>exact .bl b
 | yl hK h1 h=>exact hK.elim
 | @cp cs us ad off hb hl h0 hc hr=>
  have hM:∀b,(En.zero F').M b→(En.zero F).M b:=fun b hb=>by
   rcases hb with hb | hb
   ·exact .inl (hF b hb)
   ·exact hb.elim
  exact .cp (fun hm=>hb (hM _ hm)) hl h0 hc (fun i a u ha hu=>(hr i a u ha hu).rW hM)
theorem yG:∀ {as ts:List AV} {us:List Value} {E:En} {G G':Hp},Rel P E w G→All2 (VR P E w) as us→argsOf P G as=some (ts,G')→
  ∃E',Rel P E' w G'∧E'.φ=E.φ∧E'.K=E.K∧E'.F=E.F∧En.NO E' E∧(∀b,E'.W b→E.W b)∧All2 (VR P (En.zero E'.M) w) ts us
 | [],ts,us,E,G,G',hR,h,ht=>by
  simp[argsOf]at ht;obtain⟨rfl,rfl⟩:=ht;have:us=[]:=List.eq_nil_of_length_eq_zero (by simpa using h.1);subst this;exact⟨E,hR,rfl,rfl,rfl,⟨rfl,rfl⟩,fun _ h=>h,.nil⟩
 | a::as,ts,us,E,G,G',hR,h,ht=>by
  obtain⟨u,us,rfl,h1,h2⟩:=h.jP;have fin:∀ {E1:En} {G1:Hp} {t:AV} {rs:List AV},Rel P E1 w G1→E1.φ=E.φ→E1.K=E.K→E1.F=E.F→En.NO E1 E→(∀b,E1.W b→E.W b)→VR P (En.zero E1.M) w t u→argsOf P G1 as=some (rs,G')→ts=t::rs→
    ∃E',Rel P E' w G'∧E'.φ=E.φ∧E'.K=E.K∧E'.F=E.F∧En.NO E' E∧(∀b,E'.W b→E.W b)∧All2 (VR P (En.zero E'.M) w) ts (u::us):=by
   intro E1 G1 t rs hR1 p1 p2 pF pN p3 p4 hr hts;have hle:=En.EH w p1 p2 pF pN p3;obtain⟨E2,hR2,q1,q2,qF,qN,q3,q4⟩:=yG hR1 (h2.imp fun a b hab=>hab.ext (Ext.refl _ _) hle) hr;subst hts;refine⟨E2,hR2,q1.trans p1,q2.trans p2,qF.trans pF,qN.trans pN,fun b hb=>p3 b (q3 b hb),.cons (p4.Nv fun b hb=> ?_) q4⟩;rcases hb with hb | hb
   ·exact .inl (by rw[←qF];exact hb)
   ·exact .inr (q3 b hb)
  cases a with
  | agg cs=>
   simp only[argsOf]at ht;cases h3:bY P G cs with
   | none=>simp[h3]at ht
   | some r=>
    obtain⟨ts',G1⟩:=r;cases h4:argsOf P G1 as with
    | none=>simp[h3,h4]at ht
    | some r2=>
     obtain⟨rs,G2⟩:=r2;simp[h3,h4]at ht;obtain⟨rfl,rfl⟩:=ht;obtain⟨xs,rfl,hl,hv,_⟩:=h1.jO;obtain⟨E1,hR1,p1,p2,pF,pN,p3,p4,_⟩:=l7 hR ⟨hl,hv⟩ h3;exact fin hR1 p1 p2 pF pN p3 (Ih p4) h4 rfl
  | v _ | sl _ _ | row _ _ | any | und | tup _ | ptr _ _ | ea _ _ | mp _ | fn _ _ | bl | cp _ _ | yl _ | mt _ _=>
   simp only[argsOf]at ht;split at ht
   ·rename_i t rs G2 h3 h4;simp only[Option.some.injEq,Prod.mk.injEq]at ht;obtain⟨rfl,rfl⟩:=ht;obtain⟨E1,hR1,p1,p2,pF,pN,p3,p4⟩:=nR hR h1 h3;exact fin hR1 p1 p2 pF pN p3 (.zero p4) h4 rfl
   ·simp at ht
def lookA (P:Program) (G:Hp):AV→Option AV
 | .v x=>some (.v x)
 | .sl n cs=>some (.sl n cs)
 | .row id n=>bJ P G (.row id n)
 | .cp cs off=>some (.cp cs off)
 | .ptr id off=>match G id with
  | some (.var _ cs)=>match cs.mapM (fun a=>match a with
    | .v x=>some (.v x)
    | .sl n cs=>some (.sl n cs)
    | _=>none)with
   | some ts=>if 0<ts.length then some (.cp ts off)else none
   | none=>none
  | _=>none
 | _=>none
def iH (P:Program) (G:Hp):List AV→Option (List AV)
 | []=>some []
 | a::r=>match lookA P G a,iH P G r with
  | some t,some ts=>some (t::ts)
  | _,_=>none
def rD (P:Program) (G:Hp):AV→Option AV
 | .agg cs=>(iH P G cs).map .agg
 | .fn f caps=>(iH P G caps).map (.fn f)
 | a=>lookA P G a
def seesA (P:Program) (G:Hp):List AV→Option (List AV)
 | []=>some []
 | a::r=>match rD P G a,seesA P G r with
  | some t,some ts=>some (t::ts)
  | _,_=>none
theorem All2.Ns {f:AV→Option AV} {as ts:List AV} {us:List Value} {R R':AV→Value→Prop} (h:All2 R as us) (hm:as.mapM f=some ts) (hf:∀a t u,f a=some t→R a u→R' t u):All2 R' ts us:=by
 induction as generalizing ts us with
 | nil=>
  simp at hm;subst hm;have:us=[]:=List.eq_nil_of_length_eq_zero (by simpa using h.1);subst this;exact .nil
 | cons a as ih=>
  obtain⟨u,us,rfl,h1,h2⟩:=h.jP;rw[List.mapM_cons]at hm;cases h3:f a with
  | none=>simp[h3]at hm
  | some t=>
   cases h4:as.mapM f with
   | none=>simp[h3,h4]at hm
   | some ts'=>
    simp[h3,h4]at hm;subst hm;exact .cons (hf a t u h3 h1) (ih h2 h4)
theorem yB (hR:Rel P E w G) {a t:AV} {u:Value} (h:VR P E w a u) (ht:lookA P G a=some t):VR P (En.zero fun _=>False) w t u:=by
 have nil:∀ {a u},TR E.M w a u→VR P (En.zero fun _=>False) w a u:=fun h=> .zero (h.rW fun _ h=>h.elim);cases a with
 | v x=>simp[lookA]at ht;subst ht;obtain⟨rfl,h1⟩:=h.iE;exact .tree (.v h1)
 | sl n cs=>simp[lookA]at ht;subst ht;exact nil h.oQ
 | row id n=>
  obtain⟨E',_,_,_,_,_,_,p4⟩:=nR hR h ht;exact .zero (p4.rW fun _ h=>h.elim)
 | cp cs off=>
  simp[lookA]at ht;subst ht;cases h with
  | tree h=>cases h
  | cp hb hl h0 hc hr=>exact .cp (fun hm=>by rcases hm with hm | hm<;>exact hm) hl h0 hc (fun i a u ha hu=>(hr i a u ha hu).rW fun b hm=>by rcases hm with hm | hm<;>exact hm.elim)
 | ptr id off=>
  simp only[lookA]at ht;split at ht
  ·rename_i t0 cs hG;split at ht
   ·rename_i ts hm;split at ht
    ·rename_i h0;injection ht with ht;subst ht;obtain⟨b,hb,us,h1,h2,h3,h4,_⟩:=hR.FY hG rfl (fun e he=>by cases he);have hu:=h.zK hb;have hts:All2 (TR (fun _=>False) w) ts us:=All2.Ns (R:=VR P E w) ⟨h2,h4⟩ hm fun a t u hf hv=>by
      cases a<;>simp at hf
      ·subst hf;obtain⟨rfl,h1⟩:=hv.iE;exact .v h1
      ·subst hf;exact hv.oQ.rW fun _ h=>h.elim
     have hfin:VR P (En.zero fun _=>False) w (.cp ts off) (.pointer (some ((⟨b,0,none⟩:Addr).add off))):=.cp (us:=us) (fun hm=>by rcases hm with hm | hm<;>exact hm) hts.1 h0 (fun i x hx=>by rw[add_lit,eX h1];simpa using hx) (fun i a x ha hx=>(hts.2 i a x ha hx).rW fun b hm=>by rcases hm with hm | hm<;>exact hm);rw[hu];rw[add_lit]at hfin;simpa using hfin
    ·cases ht
   ·cases ht
  ·cases ht
 | _=>simp[lookA]at ht
theorem pK (hR:Rel P E w G):∀ {as ts:List AV} {us:List Value},All2 (VR P E w) as us→iH P G as=some ts→All2 (VR P (En.zero fun _=>False) w) ts us
 | [],ts,us,h,ht=>by
  simp[iH]at ht;subst ht;have:us=[]:=List.eq_nil_of_length_eq_zero (by simpa using h.1);subst this;exact .nil
 | a::as,ts,us,h,ht=>by
  obtain⟨u,us,rfl,h1,h2⟩:=h.jP;simp only[iH]at ht;split at ht
  ·rename_i t ts' h3 h4;injection ht with ht;subst ht;exact .cons (yB hR h1 h3) (pK hR h2 h4)
  ·cases ht
theorem Ls (hR:Rel P E w G) {a t:AV} {u:Value} (h:VR P E w a u) (ht:rD P G a=some t):VR P (En.zero fun _=>False) w t u:=by
 cases a with
 | agg cs=>
  simp only[rD,Option.map_eq_some_iff]at ht;obtain⟨ts,h1,rfl⟩:=ht;obtain⟨us,rfl,hl,hv,hone⟩:=h.jO;have:=pK hR ⟨hl,hv⟩ h1;exact .agg this.1 this.2 hone
 | fn f caps=>
  simp only[rD,Option.map_eq_some_iff]at ht;obtain⟨ts,h1,rfl⟩:=ht;obtain⟨us,rfl,hl,hv⟩:=h.Dk;have:=pK hR ⟨hl,hv⟩ h1;exact .fn this.1 this.2
 | _=>exact yB hR h (by simpa only[rD]using ht)
theorem yS (hR:Rel P E w G):∀ {as ts:List AV} {us:List Value},All2 (VR P E w) as us→seesA P G as=some ts→All2 (VR P (En.zero fun _=>False) w) ts us
 | [],ts,us,h,ht=>by
  simp[seesA]at ht;subst ht;have:us=[]:=List.eq_nil_of_length_eq_zero (by simpa using h.1);subst this;exact .nil
 | a::as,ts,us,h,ht=>by
  obtain⟨u,us,rfl,h1,h2⟩:=h.jP;simp only[seesA]at ht;split at ht
  ·rename_i t ts' h3 h4;injection ht with ht;subst ht;exact .cons (Ls hR h1 h3) (yS hR h2 h4)
  ·cases ht
end
def Sl.put (s:Sl) (d:Option Tmp) (v:AV):Sl:=match d with
 | some d=>s.upd d v
 | none=>s
def wantA (ops:Array Oper) (o:Oper) (s:Sl):Option Bool:=
 match o.guard with
 | none=>some true
 | some (g,b)=>match (ops[g]?).bind (·.dst)with
  | none=>some false
  | some t=>match s t with
   | .v (.bool c)=>some (c==b)
   | .und=>some false
   | _=>none
def QZ (G:Hp):AV→Option Nat
 | .sl n _=>some n
 | .row id n=>match G id with
  | some o=>if o.alive=true then some n else none
  | none=>none
 | _=>none
def zJ (P:Program) (G:Hp) (t:TypeId):AV→Option AV
 | .v (.string b)=>if isStr P t=true then some (.v (goInt b.size))else none
 | .sl n cs=>match elI P t with
  | some _=>some (.v (goInt n))
  | none=>none
 | .row id n=>match QZ G (.row id n),elI P t with
  | some n,some _=>some (.v (goInt n))
  | _,_=>none
 | .v (.slice none 0 0)=>match elI P t with
  | some _=>some (.v (goInt 0))
  | none=>none
 | _=>none
theorem Qr (P:Program) (G G2:Hp) (t:TypeId) (y:Value):zJ P G t (.v y)=zJ P G2 t (.v y):=by
 cases y with
 | slice A n c=>cases A<;>cases n<;>cases c<;>rfl
 | _=>rfl
def qw (P:Program) (op:BinOp) (t:TypeId):AV→AV→Option AV
 | .sl _ cs,.v (.slice none 0 0)=>match elI P t,op with
  | some _,.eql=>some (if cs.isEmpty=true then .bl else .v (.bool false))
  | some _,.neq=>some (if cs.isEmpty=true then .bl else .v (.bool true))
  | _,_=>none
 | _,_=>none
def JO (z:List Value) (n:Nat):List AV:=(madeCells z.toArray n).toList.map .v
def x9 (P:Program) (G:Hp) (nx:Nat) (t:TypeId) (l c:AV):Option (AV×Hp×Nat):=match elI P t,l,c with
 | some (e,k,by',z),.v (.int _ n),.v (.int _ m)=>if n=m∧0≤n∧n≤9223372036854775807∧n*by'≤281474976710656 then some (.row nx n.toNat,G.upd nx (.row e (JO z (n.toNat*k))),nx+1)else none
 | _,_,_=>none
def Q5:AV→AV→Option AV
 | .v (.int k n),.v (.int _ m)=>some (.v (.int k (if m<n then m else n)))
 | _,_=>none
def evC (P:Program) [Gl P] (s:Sl) (G:Hp) (nx:Nat) (o:Oper):Option (AV×Hp×Nat):=
 match o.op with
 | .call c=>match c.callee with
  | .builtin .len=>match c.args.toList,c.argTypes.toList with
   | [x],[t]=>(zJ P G t (evX s x)).map fun v=>(v,G,nx)
   | _,_=>none
  | .builtin .append=>match c.args.toList,c.argTypes.toList with
   | [x,y],[t,t']=>if t=t' then og P G nx t (evX s x) (evX s y)else none
   | _,_=>none
  | .builtin .min=>match c.args.toList,c.argTypes.toList with
   | [x,y],[_,_]=>(Q5 (evX s x) (evX s y)).map fun v=>(v,G,nx)
   | _,_=>none
  | _=>none
 | .assign (.const (.slice none 0 0))=>match elI P o.type with
  | some (e,_,_,_)=>some (.row nx 0,G.upd nx (.row e []),nx+1)
  | none=>none
 | .binOp op t x y z=>match qw P op t (evX s x) (evX s y)with
  | some v=>some (v,G,nx)
  | none=>iq P s G nx (.binOp op t x y z)
 | .makeMap t none=>match PE P t with
  | some _=>some (.mp nx,G.upd nx (.map []),nx+1)
  | none=>none
 | .lookup t x k ok=>(iP P G t (evX s x) (evX s k) ok).map fun v=>(v,G,nx)
 | .mapUpdate t m k v=>(fK P G t (evX s m) (evX s k) (evX s v)).map fun G'=>(.any,G',nx)
 | .insert t m k v=>(fK P G t (evX s m) (evX s k) (evX s v)).map fun G'=>(.any,G',nx)
 | .makeSlice t l c=>x9 P G nx t (evX s l) (evX s c)
 | _=>iq P s G nx o.op
def callA (s:Sl) (o:Oper):Option (FuncId×List AV):=
 match o.op with
 | .call c=>match c.callee with
  | .value (.func f)=>some (f,c.args.toList.map (evX s))
  | .value (.tmp t)=>match s t with
   | .fn f caps=>some (f,c.args.toList.map (evX s)++caps)
   | .mt f fs=>some (f,fs++c.args.toList.map (evX s))
   | _=>none
  | _=>none
 | _=>none
def clsOf (o:Oper):Nat:=
 match o.op with
 | .move _ | .pick .. | .build .. | .binOp .. | .unOp .. | .convert .. | .makeFunc .. | .field .. | .index .. | .extract .. =>0
 | .assign (.const (.slice none 0 0))=>2
 | .assign _=>0
 | .load .. | .nilCheck .. | .fieldAddr .. | .indexAddr .. | .lookup .. =>1
 | .alloc .. | .box .. | .buildSlice .. | .makeMap .. =>2
 | .call c=>match c.callee with
  | .builtin .len=>1
  | .value (.func _)=>2
  | _=>3
 | _=>3
def Grows (G G2:Hp):Prop:=∀id o,G id=some o→G2 id=some o∨∃e cs,o=.row e cs∧G2 id=some (.frz e cs)
def Fin (G:Hp):Prop:=∃n,∀i,n≤i→G i=none
def InlOK (P:Program) [Gl P] (f:FuncId) (args:List AV) (G:Hp) (v:AV) (G':Hp):Prop:=
 (∀args w,(callFunc f args).run P w=.ok (.enter f args) w)∧∀(E:En) (w:World) (us:List Value),Rel P E w G→All2 (VR P E w) args us→
  Calls P f us.toArray w fun e w'=>∃u E',e=.returned u∧VR P E' w' v u∧Rel P E' w' G'∧Ext E.W w w'∧En.Le w E E'
def dstOK (N:Nat) (o:Oper):Bool:=match o.dst with
 | some d=>decide (d<N)
 | none=>true
def isApp (o:Oper):Bool:=match o.op with
 | .call c=>match c.callee with
  | .builtin .append=>true
  | _=>false
 | _=>false
def O6 (o:Oper):Bool:=match o.op with
 | .call c=>match c.callee with
  | .value (.func _)=>true
  | _=>false
 | _=>false
def SK (d:Option Tmp) (o:Oper):Bool:=match o.op with
 | .call c=>match c.callee,c.args.toList,d with
  | .builtin .append,[_,.tmp t],some d=>t==d
  | _,_,_=>false
 | _=>false
def Di (o:Oper) (acc:List Nat):Nat:=o.after.toList.foldl (fun m e=>if Region.binds .any e=true then m ||| (2^e.on ||| acc.getD e.on 0)else m) 0
def xH:List Oper→List Nat→List Nat
 | [],acc=>acc
 | o::r,acc=>xH r (acc++[Di o acc])
def isLen (o:Oper):Bool:=match o.op with
 | .call c=>match c.callee with
  | .builtin .len=>true
  | _=>false
 | _=>false
def RG (ops:Array Oper):Bool:=
 let A:=xH ops.toList []
 !ops.toList.any isLen&&
 (List.range ops.size).all fun i=>match ops[i]? with
  | some o=> !isApp o || (List.range ops.size).all fun j=>match ops[j]? with
   | some oj=> !O6 oj || (A.getD i 0).testBit j
   | none=>true
  | none=>true
def uf (ops:Array Oper):Bool:=(ops.toList.any isApp&&ops.toList.any O6)&& !RG ops
def mustPure (ops:Array Oper) (o:Oper):Bool:=(match o.op with
 | .buildSlice _ _ _=>ops.toList.any (SK o.dst)
 | .call c=>match c.callee with
  | .builtin .len=>true
  | _=>false
 | _=>false)&&uf ops
def kG (ops:Array Oper) (o:Oper):Nat:=if mustPure ops o=true then 0 else clsOf o
def isVal:AV→Bool
 | .v _=>true
 | _=>false
def pureA (P:Program) (s:Sl) (o:Oper):Option AV:=match o.op with
 | .buildSlice t n ps=>match elI P t with
  | some (_,k,_,_)=>if ps.toList.map (·.1)=List.range n∧n*k≤16777216∧n≤16777216∧0<n*k∧ps.toList.all (fun p=>decide ((evX s p.2).cells.length=k)&&(evX s p.2).cells.all fun a=>AV.one a&&isVal a)=true then
    some (.sl n (ps.toList.flatMap fun p=>(evX s p.2).cells))else none
  | none=>none
 | .call c=>match c.callee with
  | .builtin .len=>match c.args.toList,c.argTypes.toList with
   | [x],[t]=>match evX s x with
    | .v y=>zJ P (fun _=>none) t (.v y)
    | .sl n cs=>zJ P (fun _=>none) t (.sl n cs)
    | _=>none
   | _,_=>none
  | _=>none
 | _=>none
inductive Step (P:Program) [Gl P] (N:Nat) (ops:Array Oper) (i:Nat):Sl→Hp→Sl→Hp→Prop
 | none {s:Sl} {G:Hp} (h:ops[i]? =none):Step P N ops i s G s G
 | off {s:Sl} {G:Hp} {o:Oper} (h:ops[i]? =some o) (hd:dstOK N o=true) (hw:wantA ops o s=some false):Step P N ops i s G (s.put o.dst .und) G
 | op {s:Sl} {G G':Hp} {o:Oper} {val:AV} {nx nx':Nat} (h:ops[i]? =some o) (hd:dstOK N o=true) (hw:wantA ops o s=some true) (hm:mustPure ops o=false) (hn:G nx=none) (he:evC P s G nx o=some (val,G',nx')):Step P N ops i s G (s.put o.dst val) G'
 | pure {s:Sl} {G:Hp} {o:Oper} {val:AV} (h:ops[i]? =some o) (hd:dstOK N o=true) (hw:wantA ops o s=some true) (hm:mustPure ops o=true) (hp:pureA P s o=some val):Step P N ops i s G (s.put o.dst val) G
 | call {s:Sl} {G G':Hp} {o:Oper} {f:FuncId} {as ts:List AV} {r:AV} {J:Js} {nx:Nat} (h:ops[i]? =some o) (hd:dstOK N o=true) (hw:wantA ops o s=some true) (hc:callA s o=some (f,as)) (ha:argsOf P G as=some (ts,G'))
   (hn:∀j,nx≤j∧j-nx<J.length→G j=Option.none) (hk:CallsOK P f ts r J):Step P N ops i s G (s.put o.dst (shiftT nx r)) (addJ G' nx J)
 | keep {s:Sl} {G:Hp} {o:Oper} {f:FuncId} {as ts:List AV} {r:AV} {J:Js} {nx:Nat} (h:ops[i]? =some o) (hd:dstOK N o=true) (hw:wantA ops o s=some true) (hc:callA s o=some (f,as)) (ha:seesA P G as=some ts)
   (hn:∀j,nx≤j∧j-nx<J.length→G j=Option.none) (hk:CallsOK P f ts r J) (hkeep:flatR r=true∧flatJ J=true):Step P N ops i s G (s.put o.dst (shiftT nx r)) (addJ G nx J)
 | inl {s:Sl} {G G':Hp} {o:Oper} {f:FuncId} {as:List AV} {v:AV} (h:ops[i]? =some o) (hd:dstOK N o=true) (hw:wantA ops o s=some true) (hc:callA s o=some (f,as))
   (hne:as≠[]∧Gl.inl P f=true) (hk:InlOK P f as G v G') (hg:clsOf o=3∨Grows G G') (hfin:Fin G→Fin G'):Step P N ops i s G (s.put o.dst v) G'
structure DefOK (n:Nat) (w:World) (W:Nat→Prop) (ds:List Deferred):Prop where
 nodup:ds.Nodup
 each:∀d∈ds,∃D:Nat,d= {target:=.collected D,args:= #[]} ∧w.heap[D]? =some (.deferred (some []))∧¬W D∧n≤D
theorem DefOK.nil {n:Nat} {w:World} {W:Nat→Prop} :DefOK n w W []:=⟨.nil,fun _ h=>by cases h⟩
theorem DefOK.ext {n:Nat} {w w':World} {W W':Nat→Prop} {ds:List Deferred} (h:DefOK n w W ds) (he:Ext W w w') (hW:∀b,b<w.heap.size→W' b→W b):DefOK n w' W' ds:=
 ⟨h.nodup,fun d hd=>by
  obtain⟨D,e,h1,h2,h3⟩:=h.each d hd;have hlt:D<w.heap.size:=(Array.getElem?_eq_some_iff.1 h1).1;exact⟨D,e,(he.same D hlt h2).trans h1,fun hw=>h2 (hW D hlt hw),h3⟩⟩
structure RelAt (P:Program) [Gl P] (N:Nat) (E1:En) (w1:World) (s:Sl) (G:Hp) (a:Act) (w:World) (E:En):Prop where
 slots:∀t,VR P E w (s t) (a.tmps.getD t undef)
 rel:Rel P E w G
 ext:Ext E1.W w1 w
 le:En.Le w1 E1 E
 defers:DefOK w1.heap.size w E.W a.defers
 size:a.tmps.size=N
section
variable {P:Program} [Gl P] {N:Nat} {E1:En} {w1:World} {s s':Sl} {G G':Hp} {a:Act} {w w':World} {E E':En} {ops:Array Oper}
theorem PU (a:Act) (d:Option Tmp) (v:Value):(a.put d v).tmps.size=a.tmps.size:=by cases d<;>simp[Act.put]
theorem put_defers (a:Act) (d:Option Tmp) (v:Value):(a.put d v).defers=a.defers:=by cases d<;>rfl
theorem RelAt.put (h:RelAt P N E1 w1 s G a w E) {o:Oper} (hd:dstOK N o=true) {val:AV} {u:Value} (hv:VR P E' w' val u) (hR:Rel P E' w' G') (he:Ext E.W w w') (hle:En.Le w E E'):
  RelAt P N E1 w1 (s.put o.dst val) G' (a.put o.dst u) w' E':=by
 refine⟨fun t=> ?_,hR,h.ext.trans he (fun b hb hW=>h.le.W b hb hW),h.le.trans hle h.ext.size,(by rw[put_defers];exact h.defers.ext he (fun b hb hW=>hle.W b hb hW)),(PU ..).trans h.size⟩;cases hdst:o.dst with
 | none=>exact(h.slots t).ext he hle
 | some d=>
  simp only[dstOK,hdst,decide_eq_true_eq]at hd;simp only[Sl.put,Act.put,Sl.upd];by_cases ht:t=d
  ·subst ht;rw[if_pos rfl];have:(a.tmps.setIfInBounds t u).getD t undef=u:=(by simp[Array.getD_eq_getD_getElem?,h.size,hd]);rw[this];exact hv
  ·rw[if_neg ht];have:(a.tmps.setIfInBounds d u).getD t undef=a.tmps.getD t undef:=by
    simp only[Array.getD_eq_getD_getElem?];rw[Array.getElem?_setIfInBounds_ne (fun e=>ht e.symm)]
   rw[this];exact(h.slots t).ext he hle
theorem iW (h:RelAt P N E1 w1 s G a w E) {o:Oper} {b:Bool} (hw:wantA ops o s=some b):Region.wanted o (yielded ops a.tmps)=b:=by
 unfold wantA at hw;unfold Region.wanted;cases hg:o.guard with
 | none=>simpa [hg]using hw
 | some g=>
  obtain⟨g,c⟩:=g;simp only[hg]at hw⊢;unfold yielded;cases hd:(ops[g]?).bind (·.dst)with
  | none=>simp[hd]at hw⊢;exact hw
  | some t=>
   simp only[hd,Option.bind_some]at hw⊢;have h1:=h.slots t;have h2:a.tmps[t]? =some (a.tmps.getD t undef)∨(a.tmps[t]? =none∧a.tmps.getD t undef=undef):=by
    rw[Array.getD_eq_getD_getElem?];cases a.tmps[t]? <;>simp
   cases hst:s t with
   | v x=>
    rw[hst]at h1 hw;obtain⟨e,_⟩:=h1.iE;cases x<;>simp at hw;rename_i d;rcases h2 with h2 | ⟨_,h2⟩
    ·rw[h2,e];simp only;rw[←hw];cases c<;>cases d<;>rfl
    ·rw[e]at h2;simp[undef]at h2
   | und=>
    rw[hst]at h1 hw;have e:a.tmps.getD t undef=undef:=by
     generalize a.tmps.getD t undef=u at h1;cases h1 with
     | und=>rfl
     | tree h=>cases h
    simp at hw;subst hw;rcases h2 with h2 | ⟨h2,_⟩
    ·rw[h2,e];rfl
    ·rw[h2];rfl
   | _=>rw[hst]at hw;simp at hw
end
section
variable {P:Program} [Gl P] {N:Nat} {E1:En} {w1:World} {s s':Sl} {G G':Hp} {a:Act} {w w':World} {E E':En} {ops:Array Oper}
theorem Out.pure {r:Result Next} {val:AV} {u:Value} (hR:Rel P E w G) (hr:r=.ok (.value u) w) (hv:VR P E w val u):Out P E w r val G:=
 ⟨w,E,u,.inl hr,hv,hR,Ext.refl _ _,En.Le.refl _ _⟩
theorem KJ {t e:TypeId} (h:P.underlying t=some (.slice e)) (ty:TypeId) (A:Option Addr) (n c:Nat):(Builtin.len_ #[t] ty #[.slice A n c]).run P w=.ok (goInt n) w:=by
 simp[Builtin.len_,run_underlying h]
theorem Il {t:TypeId} (h:P.underlying t=some .string) (ty:TypeId) (b:ByteArray):(Builtin.len_ #[t] ty #[.string b]).run P w=.ok (goInt b.size) w:=by
 simp[Builtin.len_,run_underlying h]
theorem yT {x:AV} {n:Nat} {u:Value} (hR:Rel P E w G) (hx:VR P E w x u) (h:QZ G x=some n):∃A c,u=.slice A n c:=by
 cases x<;>simp[QZ]at h
 ·subst h;cases hx.oQ with
  | nil A hn=>exact⟨_,_,rfl⟩
  | sl=>exact⟨_,_,rfl⟩
 ·rename_i id m;cases hG:G id with
  | none=>simp[hG]at h
  | some o=>
   simp[hG]at h;obtain⟨ha,rfl⟩:=h;rcases hR.obj id o hG ha with⟨b,hb,_⟩ | ⟨hN,_⟩
   ·obtain⟨cap,e,A,rfl,_⟩:=hx.sQ hb;exact⟨_,_,rfl⟩
   ·obtain⟨rfl,rfl⟩:=hx.xA hN;exact⟨_,_,rfl⟩
theorem yw {t:TypeId} {x val:AV} {u:Value} (hR:Rel P E w G) (hx:VR P E w x u) (h:zJ P G t x=some val) (ty:TypeId):∃n:Int,val=.v (goInt n)∧(Builtin.len_ #[t] ty #[u]).run P w=.ok (goInt n) w:=by
 have sl:∀ {n:Nat} {y:TypeId×Nat×Nat×List Value} {A:Option Addr} {c:Nat},elI P t=some y→(Builtin.len_ #[t] ty #[.slice A n c]).run P w=.ok (goInt n) w:=fun {n y A c} hel=>by
  obtain⟨e1,k1,by1,z1⟩:=y;exact KJ (iO hel).1 ty A n c
 unfold zJ at h;split at h
 ·split at h
  ·rename_i b hs;injection h with h;subst h;obtain⟨rfl,_⟩:=hx.iE;exact⟨_,rfl,Il (rQ hs) ty b⟩
  ·cases h
 ·rename_i n cs;split at h
  ·rename_i y hel;injection h with h;subst h;obtain⟨A,c,rfl⟩:=yT hR hx (n:=n) rfl;exact⟨_,rfl,sl hel⟩
  ·cases h
 ·rename_i id n;split at h
  ·rename_i n y hl hel;injection h with h;subst h;obtain⟨A,c,rfl⟩:=yT hR hx hl;exact⟨_,rfl,sl hel⟩
  ·cases h
 ·split at h
  ·rename_i y hel;injection h with h;subst h;obtain⟨rfl,_⟩:=hx.iE;exact⟨_,rfl,sl (n:=0) hel⟩
  ·cases h
 ·cases h
theorem toA {α:Type} {a:Array α} {l:List α} (h:a.toList=l):a=l.toArray:=by rw[←h]
theorem lZ {o:Oper} {c:Call} {b:Builtin} (ho:o.op=.call c) (hb:c.callee=.builtin b) (ρ:Operand→Value):
  (execOp ρ o).run P w=(builtin b c.argTypes o.type (c.args.map fun | .const _=>true | _=>false) (c.args.map ρ)).run P w:=by
 simp only[execOp,ho,resolve,hb];rfl
theorem run_eql_slice_nil (t e:TypeId) (A:Option Addr) (l c:Nat) (h:P.underlying t=some (.slice e)):(binOp .eql t (.slice A l c) (.slice none 0 0)).run P w=.ok (.bool A.isNone) w:=by
 simp[binOp,run_equal_slice_nil w t e A l c h]
theorem Bo {op:BinOp} {t:TypeId} {a b v:AV} {ua ub:Value} {x y:Operand} (ha:VR P E w a ua) (hb:VR P E w b ub) (h:qw P op t a b=some v):∃u,((do eqGuard op t x y ua ub;binOp op t ua ub:Sem Value)).run P w=.ok u w∧VR P E w v u:=by
 unfold qw at h;split at h
 ·rename_i n cs;obtain⟨rfl,_⟩:=hb.iE;have key:∃A c,ua=.slice A n c∧(cs.isEmpty=false→A.isNone=false):=by
   cases ha.oQ with
   | nil A hn=>exact⟨_,_,rfl,fun h=>by simp at h⟩
   | sl=>exact⟨_,_,rfl,fun _=>rfl⟩
  obtain⟨A,c,rfl,hA⟩:=key;split at h
  ·rename_i q hel;obtain⟨e,k,by',z⟩:=q;injection h with h;subst h;refine⟨.bool A.isNone,?_,?_⟩
   ·rw[Sem.run_bind];simp[eqGuard,run_eql_slice_nil t e A n c (iO hel).1]
   ·cases hc:cs.isEmpty with
    | true=>simp;exact .bl _
    | false=>simp[hA hc];exact .tree (.v rfl)
  ·rename_i q hel;obtain⟨e,k,by',z⟩:=q;injection h with h;subst h;refine⟨.bool (!A.isNone),?_,?_⟩
   ·rw[Sem.run_bind];simp[eqGuard,run_neq_slice_nil w t e A n c (iO hel).1]
   ·cases hc:cs.isEmpty with
    | true=>simp;exact .bl _
    | false=>simp[hA hc];exact .tree (.v rfl)
  ·cases h
 ·cases h
theorem Ir {t:TypeId} {l c val:AV} {ul uc:Value} {nx nx':Nat} (hR:Rel P E w G) (hl:VR P E w l ul) (hc:VR P E w c uc) (hn:G nx=none) (h:x9 P G nx t l c=some (val,G',nx')):
  ∃w' E' u,(Instr.makeSlice t ul uc).run P w=.ok u w'∧VR P E' w' val u∧Rel P E' w' G'∧Ext E.W w w'∧En.Le w E E':=by
 unfold x9 at h;split at h
 ·rename_i e k by' z kl n kc m hel;split at h
  ·rename_i hb;obtain⟨rfl,h0,h63,hbytes⟩:=hb;simp only[Option.some.injEq,Prod.mk.injEq]at h;obtain⟨rfl,rfl,rfl⟩:=h;obtain⟨rfl,_⟩:=hl.iE;obtain⟨rfl,_⟩:=hc.iE;obtain⟨hu,ti,zv,hi1,hi2,rfl,rfl,rfl,hk,hz,h1,_,_⟩:=iO hel;have hrun:=run_make (P:=P) w t e ti zv hu hi1 hi2 kl kc n n h0 (Int.le_refl _) (by rw[Int.mul_comm];exact hbytes) h63;have hsz:(madeCells zv.cells (n.toNat*ti.size)).size=n.toNat*ti.size:=size_madeCells _ _;have hone:∀x∈(madeCells zv.cells (n.toNat*ti.size)).toList,x.oneCell'=true:=fun x hx=>by
    simp only[madeCells,Array.toList_map,List.mem_map]at hx;obtain⟨i,hi,rfl⟩:=hx;have hi2:i<n.toNat*ti.size:=(by simpa using hi);have hlt:i%zv.cells.size<zv.cells.size:=Nat.mod_lt _ (by omega);rw[getElem!_pos zv.cells _ hlt];exact h1 _ (by simp)
   have hR':=hR.new hn (.row e (JO zv.cells.toList (n.toNat*ti.size))) rfl (.cells (madeCells zv.cells (n.toNat*ti.size)) e) ⟨(madeCells zv.cells (n.toNat*ti.size)).toList,by simpa using heap_alloc_new w _,by simp[JO],fun i a u ha hu=>by
    simp only[JO,Array.toArray_toList,List.getElem?_map]at ha;rw[Nat.zero_add]at hu;rw[hu]at ha;injection ha with ha;subst ha;exact .v (hone u (List.mem_of_getElem? hu))⟩
   refine⟨_,_,_,hrun,.row (show(E.add nx w.heap.size).K nx from .inl rfl) rfl (fun b hb=> ?_) (fun hN=>absurd rfl hN.1),hR',Ext.alloc E.W w _,En.tV hR hn⟩;have e0:(E.add nx w.heap.size).o nx=0:=(by simp[En.add]);rw[e0];simp[En.add]at hb;subst hb;have hcell:P.cellsOf e=ti.size:=(by simp[Program.cellsOf,hi1]);exact⟨n.toNat,e,_,rfl,Nat.le_refl _,by simp only[maxLen];omega,by simp only[World.shape?,heap_alloc_new,hsz,hcell,Nat.zero_add],fun _=>rfl⟩
  ·cases h
 ·cases h
theorem Jo (hR:Rel P E w G) (hx:∀x,VR P E w (evX s x) (a.eval x)) {nx nx':Nat} (hn:G nx=none) {o:Oper} {val:AV} (h:evC P s G nx o=some (val,G',nx')):Out P E w ((execOp a.eval o).run P w) val G':=by
 unfold evC at h;split at h
 ·rename_i c hop;split at h
  ·rename_i hb;split at h
   ·rename_i x t hargs htys;have hrun:=lZ (P:=P) (w:=w) hop hb a.eval;rw[toA hargs,toA htys]at hrun;simp only[Option.map_eq_some_iff,Prod.mk.injEq]at h;obtain⟨v,hv,rfl,rfl,rfl⟩:=h;obtain⟨n,rfl,hr⟩:=yw hR (hx x) hv o.type;refine .pure hR (u:=goInt n) ?_ (.tree (.v rfl));rw[hrun];simp only[List.map_toArray,List.map];simp[builtin,hr]
   ·simp at h
  ·rename_i hb;split at h
   ·rename_i x y t t' hargs htys;split at h
    ·rename_i ht;subst ht;obtain⟨v',w',E',hr,hv,hR',he,hle⟩:=Bz hR hn (hx x) (hx y) h (ty:=o.type);have hrun:=lZ (P:=P) (w:=w) hop hb a.eval;rw[toA hargs,toA htys]at hrun;refine⟨w',E',v',.inl ?_,hv,hR',he,hle⟩;rw[hrun];simp only[List.map_toArray,List.map];simp[builtin,hr]
    ·simp at h
   ·simp at h
  ·rename_i hb;split at h
   ·rename_i x y t t' hargs htys;have hrun:=lZ (P:=P) (w:=w) hop hb a.eval;rw[toA hargs,toA htys]at hrun;simp only[Option.map_eq_some_iff,Prod.mk.injEq]at h;obtain⟨v,hv,rfl,rfl,rfl⟩:=h;have h1:=hx x;have h2:=hx y;unfold Q5 at hv;split at hv
    ·rename_i k n k' m e1 e2;injection hv with hv;subst hv;rw[e1]at h1;rw[e2]at h2;refine .pure hR (u:=.int k (if m<n then m else n)) ?_ (.tree (.v rfl));rw[hrun];simp only[List.map_toArray,List.map,h1.iE.1,h2.iE.1];simp[builtin,Builtin.min_,Builtin.min2]
    ·cases hv
   ·simp at h
  ·simp at h
 ·rename_i hop;split at h
  ·rename_i e k by' z hel;simp only[Option.some.injEq,Prod.mk.injEq]at h;obtain⟨rfl,rfl,rfl⟩:=h;have hA:=Rel.app (w':=w) (e:=e) (all:=[]) hR hn (id:=none) (b:=none) (fun j hj=>by cases hj) (fun x hx=>by cases hx) (Ext.refl _ _) (fun x _ _=>rfl) (fun x hx=>by cases hx) (fun x hx=>by cases hx) (fun _=>rfl);refine⟨w,E.app nx none none,.slice none 0 0,.inl ?_,?_,hA.1,Ext.refl _ _,hA.2⟩
   ·simp[execOp,hop,Act.eval]
   ·refine .row (show(E.app nx none none).K nx from .inl rfl) rfl (fun b hb=> ?_) (fun _=>⟨rfl,rfl⟩);simp[En.app]at hb
  ·simp at h
 ·rename_i op t x y z hop;split at h
  ·rename_i v hv;simp only[Option.some.injEq,Prod.mk.injEq]at h;obtain⟨rfl,rfl,rfl⟩:=h;obtain⟨u,hu,hvu⟩:=Bo (x:=x) (y:=y) (hx x) (hx y) hv;refine .pure hR (u:=u) ?_ hvu;simp only[execOp,hop];rw[Sem.run_bind,hu];rfl
  ·rw[←hop]at h;exact Gq hR hx hn h
 ·rename_i t hop;split at h
  ·simp only[Option.some.injEq,Prod.mk.injEq]at h;obtain⟨rfl,rfl,rfl⟩:=h;have hle:=En.tV hR hn;have hext:=Ext.alloc E.W w (.map #[] 0);have hR':=hR.new hn (.map []) rfl (.map #[] 0) ⟨#[],0,heap_alloc_new w _,rfl,fun i e en h=>by simp at h,by simp,fun en h=>by simp at h⟩;refine⟨w.alloc (.map #[] 0),_,.map (some w.heap.size),.inl ?_,.mp (show(E.add nx w.heap.size).K nx from .inl rfl) rfl (fun b hb=> ?_),hR',hext,hle⟩
   ·simp[execOp,hop,Instr.makeMap]
   ·simp[En.add]at hb;rw[hb]
  ·cases h
 ·rename_i t x k ok hop;simp only[Option.map_eq_some_iff,Prod.mk.injEq]at h;obtain⟨v,hv,rfl,rfl,rfl⟩:=h;obtain⟨u,hu,hvu⟩:=Bv hR (hx x) (hx k) hv;refine .pure hR (u:=u) ?_ hvu;simp[execOp,hop,hu]
 ·rename_i t m k v hop;simp only[Option.map_eq_some_iff,Prod.mk.injEq]at h;obtain⟨G1,hv,rfl,rfl,rfl⟩:=h;obtain⟨w',hu,hR',he⟩:=nG hR (hx m) (hx k) (hx v) hv;exact⟨w',E,undef,.inr ⟨by simp[execOp,hop,hu],rfl⟩,.any _,hR',he,En.Le.refl _ _⟩
 ·rename_i t m k v hop;simp only[Option.map_eq_some_iff,Prod.mk.injEq]at h;obtain⟨G1,hv,rfl,rfl,rfl⟩:=h;obtain⟨w',hu,hR',he⟩:=nG hR (hx m) (hx k) (hx v) hv;exact⟨w',E,undef,.inr ⟨by simp[execOp,hop,hu],rfl⟩,.any _,hR',he,En.Le.refl _ _⟩
 ·rename_i t l c hop;obtain⟨w',E',u,hu,hvu,hR',he,hle⟩:=Ir hR (hx l) (hx c) hn h;exact⟨w',E',u,.inl (by simp[execOp,hop,hu]),hvu,hR',he,hle⟩
 ·exact Gq hR hx hn h
end
section
variable {P:Program} [Gl P] {N:Nat} {E1:En} {w1:World} {s s':Sl} {G G':Hp} {a:Act} {w w':World} {E E':En} {ops:Array Oper}
theorem Rel.below (hR:Rel P E w G) (hb:Below w.heap.size w w'):Rel P E w' G∧Ext E.W w w':=
 have he:Ext E.W w w':=Ext.of_below _ hb
 ⟨⟨hR.inj,hR.dom,fun i b h=>Nat.lt_of_lt_of_le (hR.lt i b h) he.size,fun i o hG ha=>by
   rcases hR.obj i o hG ha with⟨b,hφ,hO⟩ | h
   ·exact .inl ⟨b,hφ,hO.ext he (En.Le.refl _ _) rfl (hb.block b (hR.lt i b hφ))⟩
   ·exact .inr h,hR.K,hR.W,hR.nF,fun b h=>Nat.lt_of_lt_of_le (hR.Flt b h) he.size,fun w'' h'=>hR.good w'' (he.after (En.Le.refl _ _) h')⟩,he⟩
theorem Ja {f:FuncId} {as ts:List AV} {us:List Value} {r:AV} {J:Js} {nx:Nat} (hR:Rel P E w G) (hx:All2 (VR P E w) as us) (ha:argsOf P G as=some (ts,G'))
  (hn:∀j,nx≤j∧j-nx<J.length→G j=none) (hk:CallsOK P f ts r J):
  Calls P f us.toArray w fun e w'=>∃u E',e=.returned u∧VR P E' w' (shiftT nx r) u∧Rel P E' w' (addJ G' nx J)∧Ext E.W w w'∧En.Le w E E':=by
 obtain⟨E1,hR1,p1,p2,pF,pN,p3,p4⟩:=yG hR hx ha;obtain⟨ho,_,hk⟩:=hk;have hM:∀b,E1.M b→b<w.heap.size:=fun b hb=>by
  rcases hb with hb | hb
  ·exact hR1.Flt b hb
  ·obtain⟨i,o,h1,_⟩:=(hR1.W b).1 hb;exact hR1.lt i b h1
 refine(hk w us E1.M hM (fun w' h'=>hR1.good w' (h'.mono fun _ _ h=>h.elim)) p4).mono fun e w' h=> ?_;obtain⟨u,E2,rfl,hv,hR2,hF2,hb,hge⟩:=h;have hK:∀j,G j=none→G' j=none:=fun j hj=>by
  cases h:G' j with
  | none=>rfl
  | some o=>
   have h1:=(hR1.K j).2 ⟨o,h⟩;rw[p2]at h1;obtain⟨o',h2⟩:=(hR.K j).1 h1;rw[hj]at h2;cases h2
 obtain⟨hR3,he,hle⟩:=hR1.imp (J:=J) (fun j hj=>hK j (hn j hj)) hR2 hF2 hb hge;have hle1:=En.EH w p1 p2 pF pN p3;exact⟨u,_,rfl,N8 hR2 hF2 ho hv,hR3,he.mono fun b _ h=>p3 b h,hle1.trans hle (Nat.le_refl _)⟩
theorem flat_sound {r:AV} {u:Value} (hf:BR r=true) (h:VR P E' w' r u):VR P E w r u:=by
 have one:∀ {r:AV} {u:Value},FB r=true→VR P E' w' r u→VR P E w r u:=by
  intro r u hf h;cases r with
  | v x=>obtain⟨rfl,h1⟩:=h.iE;exact .tree (.v h1)
  | any=>exact .any _
  | _=>simp[FB]at hf
 cases r with
 | tup vs=>
  obtain⟨us,rfl,hl,hv⟩:=h.sD;simp only[BR,List.all_eq_true]at hf;exact .tup hl fun i c x hc hx=>one (hf c (List.mem_of_getElem? hc)) (hv i c x hc hx)
 | _=>exact one (by simpa only[BR]using hf) h
theorem F8 {E E':En} {w:World} {r:AV} {u:Value} (hK:E'.K=E.K) (hφ:E'.φ=E.φ) (hN:En.NO E' E) (hf:flatR r=true) (h:VR P E w r u):VR P E' w r u:=by
 have one:∀ {r:AV} {u:Value},Oy r=true→VR P E w r u→VR P E' w r u:=by
  intro r u hf h;cases r with
  | v x=>obtain⟨rfl,h1⟩:=h.iE;exact .tree (.v h1)
  | any=>exact .any _
  | row i n=>
   cases h with
   | tree h=>cases h
   | row h1 h2 h3 h4=>exact .row (by rw[hK];exact h1) h2 (fun b hb=>by rw[hN.o];exact h3 b (by rw[←hφ];exact hb)) (fun hb=>h4 (by rw[←hN.N];exact hb))
  | _=>simp[Oy]at hf
 have ag:∀ {r:AV} {u:Value},I8 r=true→VR P E w r u→VR P E' w r u:=by
  intro r u hf h;cases r with
  | agg cs=>
   obtain⟨us,rfl,hl,hv,h1⟩:=h.jO;simp only[I8,List.all_eq_true]at hf;exact .agg hl (fun i c x hc hx=>one (hf c (List.mem_of_getElem? hc)) (hv i c x hc hx)) h1
  | _=>exact one (by simpa only[I8]using hf) h
 cases r with
 | tup vs=>
  obtain⟨us,rfl,hl,hv⟩:=h.sD;simp only[flatR,List.all_eq_true]at hf;exact .tup hl fun i c x hc hx=>ag (hf c (List.mem_of_getElem? hc)) (hv i c x hc hx)
 | _=>exact ag (by simpa only[flatR]using hf) h
theorem JL {f:FuncId} {as ts:List AV} {us:List Value} {r:AV} {J:Js} {nx:Nat} (hR:Rel P E w G) (hx:All2 (VR P E w) as us) (ha:seesA P G as=some ts)
  (hn:∀j,nx≤j∧j-nx<J.length→G j=none) (hk:CallsOK P f ts r J) (hf:flatR r=true∧flatJ J=true):
  Calls P f us.toArray w fun e w'=>∃u E',e=.returned u∧VR P E' w' (shiftT nx r) u∧Rel P E' w' (addJ G nx J)∧Ext E.W w w'∧En.Le w E E':=by
 obtain⟨ho,_,hk⟩:=hk;refine(hk w us (fun _=>False) (fun b hb=>hb.elim) (fun w' h'=>hR.good w' (h'.mono fun _ _ h=>h.elim)) (yS hR hx ha)).mono fun e w' h=> ?_;obtain⟨u,E2,rfl,hv,hR2,hF2,hb,hge⟩:=h;have hM:∀b,E.M b→b<w.heap.size:=fun b hb=>by
  rcases hb with hb | hb
  ·exact hR.Flt b hb
  ·obtain⟨i,o,h1,_⟩:=(hR.W b).1 hb;exact hR.lt i b h1
 have hR3:Rel P {E2 with F:=E.M} w' (ofJ J):=by
  refine⟨hR2.inj,hR2.dom,hR2.lt,fun i o hi hal=> ?_,hR2.K,hR2.W,fun i b hi hm=> ?_,fun b hm=> ?_,hR2.good⟩
  ·rcases hR2.obj i o hi hal with⟨b,hφ,hO⟩ | h
   ·refine .inl ⟨b,hφ,?_⟩;simp only[ofJ]at hi;cases hJ:J[i]? with
    | none=>rw[hJ]at hi;cases hi
    | some p=>
     rw[hJ]at hi;simp only[Option.map_some,Option.some.injEq]at hi;subst hi;obtain⟨us,q1,q2,q3⟩:=hO;have hp:=List.all_eq_true.1 hf.2 p (List.mem_of_getElem? hJ);refine⟨us,q1,q2,fun k a x ha hx=> ?_⟩;have hpl:=List.all_eq_true.1 hp a (List.mem_of_getElem? ha);have h3:=q3 k a x ha hx;cases a with
     | v y=>cases h3 with | v h=>exact .v h
     | _=>simp[nH]at hpl
   ·exact .inr h
  ·have h1:=hge i b hi;have h2:=hM b hm;omega
  ·exact Nat.lt_of_lt_of_le (hM b hm) (Ext.of_below E.W hb).size
 obtain⟨hR4,he,hle⟩:=hR.imp (J:=J) hn hR3 rfl hb hge;exact⟨u,_,rfl,N8 hR3 rfl ho (F8 (E:=E2) (E':= {E2 with F:=E.M}) rfl rfl ⟨rfl,rfl⟩ hf.1 hv),hR4,he,hle⟩
theorem UR {xs:List Operand} (h:∀t,VR P E w (s t) (a.tmps.getD t undef)):All2 (VR P E w) (xs.map (evX s)) (xs.map a.eval):=
 ⟨by simp,fun i c u hc hu=>by
  rw[List.getElem?_map]at hc hu;cases hx:xs[i]? with
  | none=>simp[hx]at hc
  | some x=>
   simp[hx]at hc hu;subst hc;subst hu;exact jH h x⟩
theorem All2.append {α β:Type} {R:α→β→Prop} {xs xs':List α} {ys ys':List β} (h:All2 R xs ys) (h':All2 R xs' ys'):All2 R (xs++xs') (ys++ys'):=by
 have hl:=h.1;refine⟨by simp[h.1,h'.1],fun i a b ha hb=> ?_⟩;rcases Nat.lt_or_ge i xs.length with h1 | h1
 ·rw[List.getElem?_append_left h1]at ha;rw[List.getElem?_append_left (by omega)]at hb;exact h.2 i a b ha hb
 ·rw[List.getElem?_append_right h1]at ha;rw[List.getElem?_append_right (by omega)]at hb;rw[hl]at hb;exact h'.2 _ a b ha hb
theorem qE {o:Oper} {f:FuncId} {as:List AV} (hx:∀t,VR P E w (s t) (a.tmps.getD t undef)) (h:callA s o=some (f,as)):
  ∃us:List Value,All2 (VR P E w) as us∧((∀args w,(callFunc f args).run P w=.ok (.enter f args) w)→(execOp a.eval o).run P w=.ok (.enter f us.toArray) w):=by
 unfold callA at h;split at h
 ·rename_i c hop;have e:(c.args.map a.eval)=(c.args.toList.map a.eval).toArray:=(by simp[←Array.toList_inj]);split at h
  ·rename_i f' hc;simp only[Option.some.injEq,Prod.mk.injEq]at h;obtain⟨rfl,rfl⟩:=h;refine⟨c.args.toList.map a.eval,UR hx,fun he=> ?_⟩;simp[execOp,hop,resolve,hc,Act.eval,Deferred.ofValue,invoke,he];exact e
  ·rename_i t hc;split at h
   ·rename_i f' caps ht;simp only[Option.some.injEq,Prod.mk.injEq]at h;obtain⟨rfl,rfl⟩:=h;have h1:=hx t;rw[ht]at h1;obtain⟨us,hu,hl,hv⟩:=h1.Dk;refine⟨c.args.toList.map a.eval++us,(UR hx).append ⟨hl,hv⟩,fun he=> ?_⟩;simp[execOp,hop,resolve,hc,Act.eval,hu,Deferred.ofValue,invoke,he]
   ·rename_i f' fs ht;simp only[Option.some.injEq,Prod.mk.injEq]at h;obtain⟨rfl,rfl⟩:=h;have h1:=hx t;rw[ht]at h1;obtain⟨us,hu,hl,hv⟩:=h1.TD;refine⟨us++c.args.toList.map a.eval,All2.append ⟨hl,hv⟩ (UR hx),fun he=> ?_⟩;simp[execOp,hop,resolve,hc,Act.eval,hu,Deferred.ofValue,invoke,he]
   ·cases h
  ·simp at h
 ·simp at h
def FW (r:Option Nat):Fence:= {Fence.wide with round:=r}
theorem zo {r:Option Nat} {n:Nat} {f:FuncId} {us:Array Value} {R:Ending→World→Prop} (h:Calls P f us w R):CallsIn (FW r) n P f us w R:=by
 cases r with
 | none=>exact callsIn_wide.2 h
 | some l=>exact CallsIn.inRound l (callsIn_wide.2 h)
theorem oG {r:Option Nat} {n:Nat} :(FW r).depth.isSome=true→1≤n:=fun h=>by cases h
theorem Ky {o:Oper} {nx nx':Nat} {val:AV} (h:evC P s G nx o=some (val,G',nx')):∀c,o.op≠ .defer c:=by
 intro c hc;unfold evC at h;rw[hc]at h;simp[iq]at h
theorem lM {o:Oper} {f:FuncId} {as:List AV} (h:callA s o=some (f,as)):∀c,o.op≠ .defer c:=by
 intro c hc;unfold callA at h;rw[hc]at h;cases h
theorem I5 {o:Oper} {val:AV} (h:pureA P s o=some val):∀c,o.op≠ .defer c:=by
 intro c hc;unfold pureA at h;rw[hc]at h;cases h
theorem SN {cs:List AV} {us:List Value} (h:All2 (VR P E w) cs us) (hv:cs.all (fun a=>AV.one a&&isVal a)=true):∀(i:Nat) a u,cs[i]? =some a→us[i]? =some u→a=.v u∧u.oneCell'=true:=by
 intro i a u ha hu;rw[List.all_eq_true]at hv;have h1:=hv a (List.mem_of_getElem? ha);have h2:=h.2 i a u ha hu;simp only[Bool.and_eq_true]at h1;cases a with
 | v x=>obtain⟨rfl,h3⟩:=h2.iE;exact⟨rfl,h3⟩
 | _=>simp[isVal]at h1
theorem Jq (hR:Rel P E w G) (hx:∀x,VR P E w (evX s x) (a.eval x)) {o:Oper} {val:AV} (h:pureA P s o=some val):Out P E w ((execOp a.eval o).run P w) val G:=by
 unfold pureA at h;split at h
 ·rename_i t n ps hop;split at h
  ·rename_i e k by' z hel;obtain⟨hu,ti,v,hi1,hi2,hi3,hi4,hi5,hi6,hi7,hi8,hi9,hi10,hi11⟩:=iO hel;split at h
   ·rename_i hc;injection h with h;subst h;obtain⟨hr,hsz,hn',hpos,hall⟩:=hc;have hall':ps.toList.all (fun p=>decide ((evX s p.2).cells.length=k)&&(evX s p.2).cells.all AV.one)=true:=by
     simp only[List.all_eq_true,Bool.and_eq_true]at hall⊢;exact fun p hp=>⟨(hall p hp).1,fun a ha=>((hall p hp).2 a ha).1⟩
    have hallv:(ps.toList.flatMap fun p=>(evX s p.2).cells).all (fun a=>AV.one a&&isVal a)=true:=by
     simp only[List.all_eq_true,Bool.and_eq_true,List.mem_flatMap]at hall⊢;rintro a ⟨p,hp,ha⟩;exact(hall p hp).2 a ha
    obtain⟨c1,c2,c3⟩:=xY (k:=k) hx hall';have hvals:=SN c1 hallv;have hlp:ps.size=n:=(by have:=congrArg List.length hr;simpa using this);have hfill:=zi k (ps.toList.map fun p=>(p.1,a.eval p.2)) 0 ((Array.range (n*k)).map (v.cells[· %v.cells.size]!)).toList (by
     intro p hp;obtain⟨q,hq,rfl⟩:=List.mem_map.1 hp;exact c2 q hq) (by simp only[List.map_map,List.length_map,Array.length_toList,hlp];rw[←hr];simp[Function.comp_def]) (by simp[hlp])
    have hus:(ps.toList.map fun p=>(p.1,a.eval p.2)).flatMap (fun p=>p.2.cells.toList)=ps.toList.flatMap fun p=>(a.eval p.2).cells.toList:=(by rw[List.flatMap_map]);rw[hus]at hfill;simp only[Nat.zero_mul,List.take_zero,List.nil_append,Array.toArray_toList]at hfill;have hn0:¬(n*k>2^24):=(by omega);have h0:¬n*k=0:=(by omega);have hb:Below w.heap.size w (w.alloc (.cells (ps.toList.flatMap fun p=>(a.eval p.2).cells.toList).toArray e (0,0))):=(Below.refl _ w).alloc (Nat.le_refl _) _;obtain⟨hR1,he1⟩:=hR.below hb;have hbM:¬E.M w.heap.size:=by
     rintro(h | h)
     ·have:=hR.Flt _ h;omega
     ·obtain⟨i,o,h1,_⟩:=(hR.W _).1 h;have:=hR.lt i _ h1;omega
    refine⟨_,E,.slice (some ⟨w.heap.size,0,none⟩) n n,.inl ?_,.tree (.sl (us:=ps.toList.flatMap fun p=>(a.eval p.2).cells.toList) (Nat.le_refl _) ?_ hbM (by first | exact c1.1 | exact c1.1.symm) (fun i u hi=> ?_) (fun i c u hc hu=> ?_)),hR1,he1,En.Le.refl _ _⟩
    ·simp[execOp,hop,Instr.buildSlice,run_underlying hu,hi9,h0,hn0,hi10,hfill,newRow];done
    ·have:=c1.1;rw[←this];have h2:(ps.toList.flatMap fun p=>(a.eval p.2).cells.toList).length=n*k:=by
      have:∀(l:List (Nat×Operand)),(∀p∈l,(a.eval p.2).cells.size=k)→(l.flatMap fun p=>(a.eval p.2).cells.toList).length=l.length*k:=by
       intro l;induction l with
       | nil=>simp
       | cons p l ih=>
        intro hl;rw[List.flatMap_cons,List.length_append,ih (fun q hq=>hl q (List.mem_cons_of_mem _ hq)),Array.length_toList,hl p (List.mem_cons_self ..),List.length_cons,Nat.add_mul,Nat.one_mul,Nat.add_comm]
      rw[this _ c2,Array.length_toList,hlp]
     omega
    ·rw[add_lit,eX (World.alloc_heap_new w _)];simpa using hi
    ·obtain⟨rfl,h1⟩:=hvals i c u hc hu;exact .v h1
   ·cases h
  ·cases h
 ·rename_i c hop;split at h
  ·rename_i hc;split at h
   ·rename_i x t hx1 ht1;have hG:zJ P G t (evX s x)=some val:=by
     split at h
     ·rename_i y hy;rw[hy];rw[Qr P G (fun _=>none)];exact h
     ·rename_i m cs hy;rw[hy];exact h
     ·cases h
    obtain⟨m,rfl,hr⟩:=yw hR (hx x) hG o.type;have hrun:=lZ (P:=P) (w:=w) hop hc a.eval;rw[toA hx1,toA ht1]at hrun;refine .pure hR (u:=goInt m) ?_ (.tree (.v rfl));rw[hrun];simp only[List.map_toArray,List.map];simp[builtin,hr]
   ·cases h
  ·cases h
 ·cases h
theorem lK {r:Option Nat} {n:Nat} {Q:Exit→Act→World→Prop} {i:Nat} (hs:Step P N ops i s G s' G') (h:RelAt P N E1 w1 s G a w E) {K:Act→World→Prop} (hK:∀a' w' E',RelAt P N E1 w1 s' G' a' w' E'→K a' w'):
  wpOpIn (FW r) n P ops Q i K a w:=by
 cases hs with
 | none hi=>unfold wpOpIn;rw[hi];exact hK _ _ _ h
 | @off o hi hd hw=>
  unfold wpOpIn;rw[hi];simp only[iW h hw,Bool.false_eq_true,if_false];exact⟨fun _ _=>trivial,hK _ _ _ (h.put hd .und h.rel (Ext.refl _ _) (En.Le.refl _ _))⟩
 | @op _ o val nx nx' hi hd hw hm hn he=>
  unfold wpOpIn;rw[hi];simp only[iW h hw,if_true];refine⟨fun _ _=>trivial,?_⟩;rw[Oper.semAt_eq _ _ _ (Ky he)];obtain⟨w1,E1,u,hr,hv,hR1,he1,hle1⟩:=Jo h.rel (jH h.slots) hn he;have hfin:=hK _ _ _ (h.put hd hv hR1 he1 hle1);rcases hr with hr | ⟨hr,rfl⟩
  ·rw[hr];exact hfin
  ·rw[hr];exact hfin
 | @pure o val hi hd hw hm hp=>
  unfold wpOpIn;rw[hi];simp only[iW h hw,if_true];refine⟨fun _ _=>trivial,?_⟩;rw[Oper.semAt_eq _ _ _ (I5 hp)];obtain⟨w1,E1,u,hr,hv,hR1,he1,hle1⟩:=Jq h.rel (jH h.slots) hp;have hfin:=hK _ _ _ (h.put hd hv hR1 he1 hle1);rcases hr with hr | ⟨hr,rfl⟩
  ·rw[hr];exact hfin
  ·rw[hr];exact hfin
 | @call G1 o f as ts r J nx hi hd hw hc ha hn hk=>
  unfold wpOpIn;rw[hi];simp only[iW h hw,if_true];refine⟨fun _ _=>trivial,?_⟩;rw[Oper.semAt_eq _ _ _ (lM hc)];obtain⟨us,hus,hrun⟩:=qE h.slots hc;rw[hrun hk.2.1];refine⟨oG,zo ((Ja h.rel hus ha hn hk).mono fun e w1 h1=> ?_)⟩;obtain⟨u,E1,rfl,hv,hR1,he1,hle1⟩:=h1;exact hK _ _ _ (h.put hd hv hR1 he1 hle1)
 | @keep o f as ts r J nx hi hd hw hc ha hn hk hkeep=>
  unfold wpOpIn;rw[hi];simp only[iW h hw,if_true];refine⟨fun _ _=>trivial,?_⟩;rw[Oper.semAt_eq _ _ _ (lM hc)];obtain⟨us,hus,hrun⟩:=qE h.slots hc;rw[hrun hk.2.1];refine⟨oG,zo ((JL h.rel hus ha hn hk hkeep).mono fun e w1 h1=> ?_)⟩;obtain⟨u,E1,rfl,hv,hR1,he1,hle1⟩:=h1;exact hK _ _ _ (h.put hd hv hR1 he1 hle1)
 | @inl _ o f as v hi hd hw hc hne hk hg hfin=>
  unfold wpOpIn;rw[hi];simp only[iW h hw,if_true];refine⟨fun _ _=>trivial,?_⟩;rw[Oper.semAt_eq _ _ _ (lM hc)];obtain⟨us,hus,hrun⟩:=qE h.slots hc;rw[hrun hk.1];refine⟨oG,zo ((hk.2 E w us h.rel hus).mono fun e w1 h1=> ?_)⟩;obtain⟨u,E1,rfl,hv,hR1,he1,hle1⟩:=h1;exact hK _ _ _ (h.put hd hv hR1 he1 hle1)
inductive Runs (P:Program) [Gl P] (N:Nat) (ops:Array Oper):List Nat→Sl→Hp→Sl→Hp→Prop
 | nil {s:Sl} {G:Hp} :Runs P N ops [] s G s G
 | cons {i:Nat} {l:List Nat} {s s1 s':Sl} {G G1 G':Hp} (h:Step P N ops i s G s1 G1) (hr:Runs P N ops l s1 G1 s' G'):Runs P N ops (i::l) s G s' G'
end
section
variable {P:Program} [Gl P] {s s':Sl} {G G' G2:Hp} {nx:Nat}
theorem qm {t:TypeId} :∀(ps:List (Nat×Operand)) (cs:List AV),(∀p∈ps,evX s' p.2=evX s p.2)→kY P s' t cs ps=kY P s t cs ps
 | [],cs,_=>rfl
 | (i,x)::r,cs,h=>by
  have h1:=h (i,x) (by simp);simp only at h1;have ih:=fun cs=>qm (t:=t) r cs fun p hp=>h p (by simp[hp]);simp only[kY,h1,ih]
theorem zM {t:TypeId} {x:AV} {lo hi:Option Operand} (hl:∀y,lo=some y→evX s' y=evX s y) (hh:∀y,hi=some y→evX s' y=evX s y):
  eH P G t x (fun d=>bnd s' d lo) (fun d=>bnd s' d hi)=eH P G t x (fun d=>bnd s d lo) (fun d=>bnd s d hi):=by
 have e:∀(o:Option Operand) (d:Nat),(∀y,o=some y→evX s' y=evX s y)→bnd s' d o=bnd s d o:=by
  intro o d h;cases o with
  | none=>rfl
  | some y=>simp only[bnd,h y rfl]
 have e1:(fun d=>bnd s' d lo)=fun d=>bnd s d lo:=funext fun d=>e lo d hl;have e2:(fun d=>bnd s' d hi)=fun d=>bnd s d hi:=funext fun d=>e hi d hh;rw[e1,e2]
theorem yJ {op:Op} (h:∀x∈op.operands,evX s' x=evX s x):iq P s' G nx op=iq P s G nx op:=by
 cases op with
 | build t ps=>
  have h1:∀p∈ps.toList,evX s' p.2=evX s p.2:=fun p hp=>h p.2 (by simp only[Op.operands,List.mem_toArray,List.mem_map];exact⟨p,hp,rfl⟩);simp only[iq,qm ps.toList _ h1]
 | buildSlice t n ps=>
  have h1:∀p∈ps.toList,evX s' p.2=evX s p.2:=fun p hp=>h p.2 (by simp only[Op.operands,List.mem_toArray,List.mem_map];exact⟨p,hp,rfl⟩);have e1:(ps.toList.flatMap fun p=>(evX s' p.2).cells)=ps.toList.flatMap fun p=>(evX s p.2).cells:=by
   rw[List.flatMap_def,List.flatMap_def];congr 1;exact List.map_congr_left fun p hp=>by rw[h1 p hp]
  have e2:∀k,(ps.toList.all fun p=>decide ((evX s' p.2).cells.length=k)&&(evX s' p.2).cells.all AV.one)=ps.toList.all fun p=>decide ((evX s p.2).cells.length=k)&&(evX s p.2).cells.all AV.one:=by
   intro k;rw[Bool.eq_iff_iff,List.all_eq_true,List.all_eq_true];exact⟨fun hh p hp=>by rw[←h1 p hp];exact hh p hp,fun hh p hp=>by rw[h1 p hp];exact hh p hp⟩
  simp only[iq,e1,e2]
 | makeFunc fn first caps=>
  (cases fn<;>try rfl);simp only[iq];split
  ·rename_i hf;have:(caps.toList.map (evX s'))=caps.toList.map (evX s):=List.map_congr_left fun x hx=>h x (by simp only[Op.operands,Array.mem_append];exact .inr (by simpa using hx));rw[this]
  ·have:(first.toList.map (evX s'))=first.toList.map (evX s):=List.map_congr_left fun x hx=>h x (by simp only[Op.operands,Array.mem_append];exact .inl (by simpa using hx));rw[this]
 | slice t x lo hi mx=>
  cases mx with
  | some _=>rfl
  | none=>
   have hx:=h x (by simp[Op.operands]);simp only[iq,hx];rw[zM (fun y hy=>h y (by simp[Op.operands,hy])) (fun y hy=>h y (by simp[Op.operands,hy]))];have e:(fun d=>bnd s' d hi)=fun d=>bnd s d hi:=funext fun d=>by
    cases hi with
    | none=>rfl
    | some y=>simp only[bnd,h y (by simp[Op.operands])]
   have e3:(fun d=>bnd s' d lo)=fun d=>bnd s d lo:=funext fun d=>by
    cases lo with
    | none=>rfl
    | some y=>simp only[bnd,h y (by simp[Op.operands])]
   rw[e,e3]
 | _=>first
  | rfl
  | (simp[Op.operands]at h;simp only[iq,h])
theorem J9 {o:Oper} (h:∀x∈o.op.operands,evX s' x=evX s x):evC P s' G nx o=evC P s G nx o:=by
 unfold evC;split
 ·rename_i c hop;have hc:∀x∈c.args.toList,evX s' x=evX s x:=fun x hx=>h x (by rw[hop];simp only[Op.operands,Call.operands,Array.mem_append];exact .inr (by simpa using hx));split
  ·split
   ·rename_i h1 h2;rw[hc _ (by rw[h1];simp)]
   ·rfl
  ·split
   ·rename_i h1 h2;rw[hc _ (by rw[h1];simp),hc _ (by rw[h1];simp)]
   ·rfl
  ·split
   ·rename_i h1 h2;rw[hc _ (by rw[h1];simp),hc _ (by rw[h1];simp)]
   ·rfl
  ·rfl
 ·rfl
 ·rename_i op t x y z hop;have hx:evX s' x=evX s x:=h x (by rw[hop];simp[Op.operands]);have hy:evX s' y=evX s y:=h y (by rw[hop];simp[Op.operands]);rw[hx,hy,yJ (by rw[hop]at h;exact h)]
 ·rfl
 ·rename_i t x k ok hop;rw[h x (by rw[hop];simp[Op.operands]),h k (by rw[hop];simp[Op.operands])]
 ·rename_i t m k v hop;rw[h m (by rw[hop];simp[Op.operands]),h k (by rw[hop];simp[Op.operands]),h v (by rw[hop];simp[Op.operands])]
 ·rename_i t m k v hop;rw[h m (by rw[hop];simp[Op.operands]),h k (by rw[hop];simp[Op.operands]),h v (by rw[hop];simp[Op.operands])]
 ·rename_i t l c hop;rw[h l (by rw[hop];simp[Op.operands]),h c (by rw[hop];simp[Op.operands])]
 ·exact yJ (P:=P) h
theorem zu {op:Op} {val:AV} {nx':Nat} (hc:match op with | .move _ | .assign _ | .pick .. | .build .. | .binOp .. | .unOp .. | .convert .. | .makeFunc .. | .field .. | .index .. | .extract .. =>True | _=>False) (h:iq P s G nx op=some (val,G',nx')):
  G'=G∧∀G2 nx2,iq P s G2 nx2 op=some (val,G2,nx2):=by
 (cases op<;>try exact hc.elim);(all_goals simp only[iq]at h⊢);(all_goals (repeat' split at h));all_goals first
  | (simp only[Option.some.injEq,Prod.mk.injEq,reduceCtorEq]at h;obtain⟨rfl,rfl,rfl⟩:=h;simp_all;done)
  | (simp only[Option.map_eq_some_iff,Prod.mk.injEq]at h;obtain⟨r,hr,rfl,rfl,rfl⟩:=h;simp_all;done)
  | (cases h;done)
  | contradiction
  | skip
end
end Go.Proofs.YtmmbgjmigmchbaaGreatDoorAbs
