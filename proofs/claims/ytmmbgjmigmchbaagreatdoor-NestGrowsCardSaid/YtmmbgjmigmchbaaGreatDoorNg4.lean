/- Texts and lists. -/
import Derived.Test.YtmmbgjmigmchbaaGreatDoorNg3
import Derived.WideShapes
import Derived.Sort.Walk0
import Derived.Sort.KeysCollected
namespace Go.Proofs.YtmmbgjmigmchbaaGreatDoorAbs
set_option linter.unusedSimpArgs false
set_option linter.unusedVariables false
open Go Go.RowKit Go.Proofs
abbrev Bs:=ByteArray
abbrev iV (n:Int):AV:=.v (.int .i64 n)
abbrev sV (b:Bs):AV:=.v (.string b)
abbrev bV (b:Bool):AV:=.v (.bool b)
def bsL (b:Bs):List UInt8:=b.data.toList
def ofL (l:List UInt8):Bs:=⟨l.toArray⟩
@[simp] theorem EN (l:List UInt8):bsL (ofL l)=l:=by simp[bsL,ofL]
@[simp] theorem RJ (b:Bs):ofL (bsL b)=b:=by cases b;simp[bsL,ofL]
theorem nD {a b:Bs} (h:bsL a=bsL b):a=b:=WideShapes.bytes_inj h
theorem pI (a:Bs):a.toList=bsL a:=ByteArray.toList_eq a
theorem gy (a:Bs):(bsL a).length=a.size:=by simp[bsL]
theorem beq_toList (a b:Bs):(a.toList==b.toList)=decide (a=b):=by
 rw[pI,pI,Bool.eq_iff_iff];simp only[beq_iff_eq,decide_eq_true_eq];exact⟨fun h=>nD h,fun h=>by rw[h]⟩
@[simp] theorem str_eql (P:Program) (t:TypeId) (a b:Bs):iZ P .eql t (.string a) (.string b)=some (.bool (decide (a=b))):=by
 simp only[iZ,beq_toList]
@[simp] theorem str_neq (P:Program) (t:TypeId) (a b:Bs):iZ P .neq t (.string a) (.string b)=some (.bool (!decide (a=b))):=by
 simp only[iZ,beq_toList]
theorem lW {α:Type} [Inhabited α] {p:α→Bool} {l:List α} {i:Nat} (hi:i<l.length) (h:(l.take i).any p=false) (hn:p (nth l i)=false):(l.take (i+1)).any p=false:=by
 rw[List.take_add_one,List.getElem?_eq_getElem hi,List.any_append,h,←bZ hi];simp[hn]
theorem vM {α:Type} [Inhabited α] {p:α→Bool} {l:List α} {i:Nat} (hi:i<l.length):(l.take (i+1)).any p=((l.take i).any p || p (nth l i)):=by
 rw[List.take_add_one,List.getElem?_eq_getElem hi,List.any_append,←bZ hi];simp
theorem iK {α:Type} [Inhabited α] {p:α→Bool} {l:List α} {i:Nat} (hi:i<l.length):(l.take (i+1)).all p=((l.take i).all p&&p (nth l i)):=by
 rw[List.take_add_one,List.getElem?_eq_getElem hi,List.all_append,←bZ hi];simp
theorem all_false {α:Type} [Inhabited α] {p:α→Bool} {l:List α} {i:Nat} (hi:i<l.length) (h:p (nth l i)=false):l.all p=false:=by
 rw[List.all_eq_false];exact⟨_,bM hi,by simp[h]⟩
end Go.Proofs.YtmmbgjmigmchbaaGreatDoorAbs
