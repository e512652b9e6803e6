/- Texts and lists. -/
import Derived.Test.YtmmbgjmigmchbaaGreatDoorNa3
import Derived.WideShapes
import Derived.Sort.Walk0
import Derived.Sort.KeysCollected
namespace Go.Proofs.YtmmbgjmigmchbaaGreatDoorAbs
set_option linter.unusedSimpArgs false
set_option linter.unusedVariables false
open Go Go.RowKit Go.Proofs
abbrev Bs:=ByteArray
abbrev iV (n:Int):AV:=.v (.int .i64 n)
abbrev sV (b:Bs):AV:=.v (.string b)
abbrev bV (b:Bool):AV:=.v (.bool b)
def bsL (b:Bs):List UInt8:=b.data.toList
def ofL (l:List UInt8):Bs:=⟨l.toArray⟩
@[simp] theorem E8 (l:List UInt8):bsL (ofL l)=l:=by simp[bsL,ofL]
@[simp] theorem RX (b:Bs):ofL (bsL b)=b:=by cases b;simp[bsL,ofL]
theorem nK {a b:Bs} (h:bsL a=bsL b):a=b:=WideShapes.bytes_inj h
theorem qo (a:Bs):a.toList=bsL a:=ByteArray.toList_eq a
theorem gI (a:Bs):(bsL a).length=a.size:=by simp[bsL]
theorem beq_toList (a b:Bs):(a.toList==b.toList)=decide (a=b):=by
 rw[qo,qo,Bool.eq_iff_iff];simp only[beq_iff_eq,decide_eq_true_eq];exact⟨fun h=>nK h,fun h=>by rw[h]⟩
@[simp] theorem str_eql (P:Program) (t:TypeId) (a b:Bs):jh P .eql t (.string a) (.string b)=some (.bool (decide (a=b))):=by
 simp only[jh,beq_toList]
@[simp] theorem str_neq (P:Program) (t:TypeId) (a b:Bs):jh P .neq t (.string a) (.string b)=some (.bool (!decide (a=b))):=by
 simp only[jh,beq_toList]
theorem mF {α:Type} [Inhabited α] {p:α→Bool} {l:List α} {i:Nat} (hi:i<l.length) (h:(l.take i).any p=false) (hn:p (nth l i)=false):(l.take (i+1)).any p=false:=by
 rw[List.take_add_one,List.getElem?_eq_getElem hi,List.any_append,h,←bZ hi];simp[hn]
theorem lC {α:Type} [Inhabited α] {p:α→Bool} {l:List α} {i:Nat} (hi:i<l.length):(l.take (i+1)).any p=((l.take i).any p || p (nth l i)):=by
 rw[List.take_add_one,List.getElem?_eq_getElem hi,List.any_append,←bZ hi];simp
theorem iR {α:Type} [Inhabited α] {p:α→Bool} {l:List α} {i:Nat} (hi:i<l.length):(l.take (i+1)).all p=((l.take i).all p&&p (nth l i)):=by
 rw[List.take_add_one,List.getElem?_eq_getElem hi,List.all_append,←bZ hi];simp
theorem all_false {α:Type} [Inhabited α] {p:α→Bool} {l:List α} {i:Nat} (hi:i<l.length) (h:p (nth l i)=false):l.all p=false:=by
 rw[List.all_eq_false];exact⟨_,bK hi,by simp[h]⟩
end Go.Proofs.YtmmbgjmigmchbaaGreatDoorAbs
