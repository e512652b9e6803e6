/- The arguments of the edges' statements, as trees. -/
import Derived.Test.YtomidniaekeafaaTwice
namespace Go.Proofs.YtomidniaekeafaaAbs
set_option linter.unusedSimpArgs false
set_option linter.unusedVariables false
open Go Go.RowKit Go.Proofs
set_option maxRecDepth 100000
theorem op3 : Opens Try.prog (fun _ : Int => True) (fun n => [iV n]) 3 := (opens_int (k := .i64) (by kernel_rfl)).map id (fun _ _ => trivial) fun _ => rfl
theorem op39 : Opens Try.prog (fun _ : Int => True) (fun n => [iV n]) 39 := (opens_int (k := .i64) (by kernel_rfl)).map id (fun _ _ => trivial) fun _ => rfl
theorem op67 : Opens Try.prog (fun _ : Int => True) (fun n => [iV n]) 67 := (opens_int (k := .i64) (by kernel_rfl)).map id (fun _ _ => trivial) fun _ => rfl
theorem op9 : Opens Try.prog (fun _ : Bs => True) (fun n => [sV n]) 9 := (opens_string (by kernel_rfl)).map id (fun _ _ => trivial) fun _ => rfl
theorem op4 : Opens Try.prog (fun _ : Bool => True) (fun n => [.v (.bool n)]) 4 := opens_bool (by kernel_rfl)
def Ver.cells (v : Int × Int × Int × Bs) : List AV := [iV v.1, iV v.2.1, iV v.2.2.1, sV v.2.2.2]
theorem op23 : Opens Try.prog (fun _ => True) Ver.cells 23 :=
  (opens_struct (opensF_cons 1 op3 (opensF_cons 1 op3 (opensF_cons 1 op3 (opensF_cons 1 op9 (opensF_nil (n := 4)) (by kernel_rfl)) (by kernel_rfl)) (by kernel_rfl)) (by kernel_rfl)) (by kernel_rfl) (by kernel_rfl)).map
    (fun x => (x.1, x.2.1, x.2.2.1, x.2.2.2.1)) (fun _ _ => trivial) fun _ => rfl
theorem op69 : Opens Try.prog (fun _ => True) Bd.cells 69 :=
  (opens_struct (opensF_cons 1 op67 (opensF_cons 4 op23 (opensF_nil (n := 5)) (by kernel_rfl)) (by kernel_rfl)) (by kernel_rfl) (by kernel_rfl)).map
    (fun x => ⟨x.1, x.2.1.1, x.2.1.2.1, x.2.1.2.2.1, x.2.1.2.2.2⟩) (fun _ _ => trivial) fun _ => rfl
theorem op66 : Opens Try.prog (fun _ => True) Alt.cells 66 := (opens_slice op69 (by kernel_rfl) (by kernel_rfl)).map id (fun _ _ => trivial) fun _ => rfl
theorem op33 : Opens Try.prog (fun _ => True) Rg.cells 33 :=
  (opens_struct (opensF_cons 1 (opens_slice op66 (t := 31) (by kernel_rfl) (by kernel_rfl)) (opensF_nil (n := 1)) (by kernel_rfl)) (by kernel_rfl) (by kernel_rfl)).map (fun x => x.1) (fun _ _ => trivial) fun _ => rfl
theorem op41 : Opens Try.prog (fun _ => True) Dep.cells 41 :=
  (opens_struct (opensF_cons 1 op39 (opensF_cons 1 op9 (opensF_cons 1 op33 (opensF_nil (n := 3)) (by kernel_rfl)) (by kernel_rfl)) (by kernel_rfl)) (by kernel_rfl) (by kernel_rfl)).map
    (fun x => ⟨x.1, x.2.1, x.2.2.1⟩) (fun _ _ => trivial) fun _ => rfl
theorem op52 : Opens Try.prog (fun _ => True) Ru.cells 52 :=
  (opens_struct (opensF_cons 1 op9 (opensF_cons 1 op33 (opensF_nil (n := 2)) (by kernel_rfl)) (by kernel_rfl)) (by kernel_rfl) (by kernel_rfl)).map
    (fun x => ⟨x.1, x.2.1⟩) (fun _ _ => trivial) fun _ => rfl
theorem op25 : Opens Try.prog (fun _ => True) (fun l : List Ru => [rowT Ru.cells l]) 25 := (opens_slice op52 (by kernel_rfl) (by kernel_rfl)).map id (fun _ _ => trivial) fun _ => rfl
theorem op27 : Opens Try.prog (fun _ => True) Man.cells 27 :=
  (opens_struct (opensF_cons 1 op9 (opensF_cons 4 op23 (opensF_cons 1 (opens_slice op41 (t := 24) (by kernel_rfl) (by kernel_rfl)) (opensF_cons 1 op25 (opensF_nil (n := 7)) (by kernel_rfl)) (by kernel_rfl)) (by kernel_rfl)) (by kernel_rfl)) (by kernel_rfl) (by kernel_rfl)).map
    (fun x => ⟨x.1, x.2.1.1, x.2.1.2.1, x.2.1.2.2.1, x.2.1.2.2.2, x.2.2.1, x.2.2.2.1⟩) (fun _ _ => trivial) fun _ => rfl
end Go.Proofs.YtomidniaekeafaaAbs
