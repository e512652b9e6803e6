/- The program's data, as trees. -/
import Derived.Test.YtomidniaekeafaaTab
import Derived.WideShapes
namespace Go.Proofs.YtomidniaekeafaaAbs
open Go Go.RowKit Go.Proofs

abbrev Bs := ByteArray
theorem beq_toList (a b : Bs) : (a.toList == b.toList) = decide (a = b) := by
  rw [ByteArray.toList_eq, ByteArray.toList_eq, Bool.eq_iff_iff]
  simp only [beq_iff_eq, decide_eq_true_eq]
  exact ⟨fun h => WideShapes.bytes_inj h, fun h => by rw [h]⟩
@[simp] theorem str_eql (P : Program) (t : TypeId) (a b : Bs) : evBin P .eql t (.string a) (.string b) = some (.bool (decide (a = b))) := by
  simp only [evBin, beq_toList]
@[simp] theorem str_neq (P : Program) (t : TypeId) (a b : Bs) : evBin P .neq t (.string a) (.string b) = some (.bool (!decide (a = b))) := by
  simp only [evBin, beq_toList]
structure Bd where
  op : Int
  maj : Int
  min : Int
  pat : Int
  pre : Bs
  deriving DecidableEq, Inhabited
abbrev Alt := List Bd
abbrev Rg := List Alt
structure Dep where
  kind : Int
  name : Bs
  range : Rg
  deriving DecidableEq, Inhabited
structure Ru where
  name : Bs
  range : Rg
  deriving DecidableEq, Inhabited
structure Man where
  name : Bs
  maj : Int
  min : Int
  pat : Int
  pre : Bs
  deps : List Dep
  rules : List Ru
  deriving DecidableEq, Inhabited
abbrev iV (n : Int) : AV := .v (.int .i64 n)
abbrev sV (b : Bs) : AV := .v (.string b)
def Bd.val (b : Bd) : Value := .agg #[.int .i64 b.op, .int .i64 b.maj, .int .i64 b.min, .int .i64 b.pat, .string b.pre]
def Bd.cells (b : Bd) : List AV := [iV b.op, iV b.maj, iV b.min, iV b.pat, sV b.pre]
def Alt.cells (l : Alt) : List AV := [rowT Bd.cells l]
def Rg.cells (r : Rg) : List AV := [rowT Alt.cells r]
def Dep.cells (d : Dep) : List AV := [iV d.kind, sV d.name, rowT Alt.cells d.range]
def Ru.cells (d : Ru) : List AV := [sV d.name, rowT Alt.cells d.range]
def Man.cells (m : Man) : List AV := [sV m.name, iV m.maj, iV m.min, iV m.pat, sV m.pre, rowT Dep.cells m.deps, rowT Ru.cells m.rules]
instance : Wid Bd.cells 5 := ⟨fun _ => rfl, by decide⟩
instance : Wid Alt.cells 1 := ⟨fun _ => rfl, by decide⟩
instance : Wid Dep.cells 3 := ⟨fun _ => rfl, by decide⟩
instance : Wid Ru.cells 2 := ⟨fun _ => rfl, by decide⟩
section
variable {G : Hp}
@[simp] theorem bd_looks (P : Program) (d : Bd) : looksA P G d.cells = some d.cells := rfl
@[simp] theorem bd_trees (P : Program) (d : Bd) : treesOf P G d.cells = some (d.cells, G) := rfl
@[simp] theorem dep_looks (P : Program) (d : Dep) : looksA P G d.cells = some d.cells := rfl
@[simp] theorem dep_trees (P : Program) (d : Dep) : treesOf P G d.cells = some (d.cells, G) := rfl
@[simp] theorem ru_looks (P : Program) (d : Ru) : looksA P G d.cells = some d.cells := rfl
@[simp] theorem ru_trees (P : Program) (d : Ru) : treesOf P G d.cells = some (d.cells, G) := rfl
@[simp] theorem man_looks (P : Program) (d : Man) : looksA P G d.cells = some d.cells := rfl
@[simp] theorem man_trees (P : Program) (d : Man) : treesOf P G d.cells = some (d.cells, G) := rfl
@[simp] theorem rg_looks (P : Program) (d : Rg) : looksA P G d.cells = some d.cells := rfl
@[simp] theorem rg_trees (P : Program) (d : Rg) : treesOf P G d.cells = some (d.cells, G) := rfl
@[simp] theorem alt_looks (P : Program) (d : Alt) : looksA P G d.cells = some d.cells := rfl
@[simp] theorem alt_trees (P : Program) (d : Alt) : treesOf P G d.cells = some (d.cells, G) := rfl
@[simp] theorem dep_one (d : Dep) : d.cells.all AV.one = true := rfl
@[simp] theorem dep_len (d : Dep) : d.cells.length = 3 := rfl
@[simp] theorem ru_one (d : Ru) : d.cells.all AV.one = true := rfl
@[simp] theorem ru_len (d : Ru) : d.cells.length = 2 := rfl
@[simp] theorem man_one (d : Man) : d.cells.all AV.one = true := rfl
@[simp] theorem man_len (d : Man) : d.cells.length = 7 := rfl
@[simp] theorem bd_one (d : Bd) : d.cells.all AV.one = true := rfl
@[simp] theorem bd_len (d : Bd) : d.cells.length = 5 := rfl
@[simp] theorem bd_all (b : Bd) : getC b.cells 0 5 = some b.cells := rfl
@[simp] theorem bd_ver (b : Bd) : getC b.cells 1 4 = some [iV b.maj, iV b.min, iV b.pat, sV b.pre] := rfl
@[simp] theorem bd_conc (b : Bd) : conc (.agg b.cells) = some b.val := rfl
@[simp] theorem alt_all (l : Alt) : getC l.cells 0 1 = some [rowT Bd.cells l] := rfl
@[simp] theorem dep_all (d : Dep) : getC d.cells 0 3 = some d.cells := rfl
@[simp] theorem dep_kind (d : Dep) : getC d.cells 0 1 = some [iV d.kind] := rfl
@[simp] theorem dep_name (d : Dep) : getC d.cells 1 1 = some [sV d.name] := rfl
@[simp] theorem dep_range (d : Dep) : getC d.cells 2 1 = some [rowT Alt.cells d.range] := rfl
@[simp] theorem ru_all (d : Ru) : getC d.cells 0 2 = some d.cells := rfl
@[simp] theorem ru_name (d : Ru) : getC d.cells 0 1 = some [sV d.name] := rfl
@[simp] theorem ru_range (d : Ru) : getC d.cells 1 1 = some [rowT Alt.cells d.range] := rfl
@[simp] theorem man_name (m : Man) : getC m.cells 0 1 = some [sV m.name] := rfl
@[simp] theorem man_ver (m : Man) : getC m.cells 1 4 = some [iV m.maj, iV m.min, iV m.pat, sV m.pre] := rfl
@[simp] theorem man_deps (m : Man) : getC m.cells 5 1 = some [rowT Dep.cells m.deps] := rfl
@[simp] theorem man_rules (m : Man) : getC m.cells 6 1 = some [rowT Ru.cells m.rules] := rfl
@[simp] theorem getC_one (a : AV) : getC [a] 0 1 = some [a] := rfl
end
theorem eq69' (a b : Bd) : evBin Try.prog .neq 69 a.val b.val = some (.bool (!((a.op == b.op) && (((a.maj == b.maj) && ((a.min == b.min) && ((a.pat == b.pat) && ((a.pre.toList == b.pre.toList) && true)))) && true)))) := by kernel_rfl
@[simp] theorem eq69 (a b : Bd) : evBin Try.prog .neq 69 a.val b.val = some (.bool (!decide (a = b))) := by
  rw [eq69', beq_toList]
  have : ((a.op == b.op) && (((a.maj == b.maj) && ((a.min == b.min) && ((a.pat == b.pat) && (decide (a.pre = b.pre) && true)))) && true)) = decide (a = b) := by
    rw [Bool.eq_iff_iff]
    cases a; cases b
    simp
  rw [this]
end Go.Proofs.YtomidniaekeafaaAbs
