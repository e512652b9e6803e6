/- hoggetref04.Compare. -/
import Derived.Test.YtgipehooceecpaaGreatDoorM11
import Derived.Test.YtgipehooceecpaaGreatDoorRows
import Derived.Deep.DeepHandedRow
import Derived.Deep.DeepWitnessRowRef
import Derived.Lib.LaidIn
import Derived.Stop.LaidErr
import Derived.Shelf.Vars
import Derived.MakeChecks
import Derived.OpenShut
import Derived.ChangeBears2
import Derived.Test.YtgipehooceecpaaGreatDoorM3
namespace Go.Proofs.YtgipehooceecpaaGreatDoorAbs
set_option linter.unusedSimpArgs false
set_option linter.unusedVariables false
open Go Go.RowKit Go.Proofs
set_option maxRecDepth 100000
theorem op3 : Opens Tryz.prog (fun _ : Int => True) (fun n => [iV n]) 3 := (opens_int (k := .i64) (by kernel_rfl)).map id (fun _ _ => trivial) fun _ => rfl
theorem op85 : Opens Tryz.prog (fun _ : Int => True) (fun n => [iV n]) 85 := (opens_int (k := .i64) (by kernel_rfl)).map id (fun _ _ => trivial) fun _ => rfl
theorem op30 : Opens Tryz.prog (fun _ : Int => True) (fun n => [iV n]) 30 := (opens_int (k := .i64) (by kernel_rfl)).map id (fun _ _ => trivial) fun _ => rfl
theorem op9 : Opens Tryz.prog (fun s : Bs => s.size ≤ maxLen) (fun n => [sV n]) 9 := (opens_string (by kernel_rfl)).map id (fun _ h => h) fun _ => rfl
theorem op23 : Opens Tryz.prog (fun v : Ver => v.pre.size ≤ maxLen) Ver.cells 23 :=
 (opens_struct (opensF_cons 1 op3 (opensF_cons 1 op3 (opensF_cons 1 op3 (opensF_cons 1 op9 (opensF_nil (n := 4)) (by kernel_rfl)) (by kernel_rfl)) (by kernel_rfl)) (by kernel_rfl)) (by kernel_rfl) (by kernel_rfl)).map
  (fun x => ⟨x.1, x.2.1, x.2.2.1, x.2.2.2.1⟩) (fun _ h => h.2.2.2.1) fun _ => rfl
theorem op87 : Opens Tryz.prog (fun _ => True) Bd.cells 87 :=
 (opens_struct (opensF_cons 1 op85 (opensF_cons 4 op23 (opensF_nil (n := 5)) (by kernel_rfl)) (by kernel_rfl)) (by kernel_rfl) (by kernel_rfl)).map
  (fun x => ⟨x.1, x.2.1⟩) (fun _ _ => trivial) fun _ => rfl
theorem op83 : Opens Tryz.prog (fun l : Alt => l.length ≤ maxLen) Alt.cells 83 := (opens_slice op87 (by kernel_rfl) (by kernel_rfl)).map id (fun _ h => h.1) fun _ => rfl
def Rg.okO (r : Rg) : Prop := r.length ≤ maxLen ∧ ∀ l ∈ r, l.length ≤ maxLen
theorem op31 : Opens Tryz.prog Rg.okO Rg.cells 31 := (opens_slice op83 (by kernel_rfl) (by kernel_rfl)).map id (fun _ h => h) fun _ => rfl
theorem op33 : Opens Tryz.prog Rg.okO Rg.cells 33 :=
 (opens_struct (opensF_cons 1 op31 (opensF_nil (n := 1)) (by kernel_rfl)) (by kernel_rfl) (by kernel_rfl)).map (fun x => x.1) (fun _ h => h.1) fun x => by simp [Rg.cells]
def Dep.okO (d : Dep) : Prop := d.name.size ≤ maxLen ∧ Rg.okO d.range
theorem op35 : Opens Tryz.prog Dep.okO Dep.cells 35 :=
 (opens_struct (opensF_cons 1 op30 (opensF_cons 1 op9 (opensF_cons 1 op33 (opensF_nil (n := 3)) (by kernel_rfl)) (by kernel_rfl)) (by kernel_rfl)) (by kernel_rfl) (by kernel_rfl)).map
  (fun x => ⟨x.1, x.2.1, x.2.2.1⟩) (fun _ h => ⟨h.2.1, h.2.2.1⟩) fun _ => rfl
def Ru.okO (d : Ru) : Prop := d.name.size ≤ maxLen ∧ Rg.okO d.range
theorem op96 : Opens Tryz.prog Ru.okO Ru.cells 96 :=
 (opens_struct (opensF_cons 1 op9 (opensF_cons 1 op33 (opensF_nil (n := 2)) (by kernel_rfl)) (by kernel_rfl)) (by kernel_rfl) (by kernel_rfl)).map
  (fun x => ⟨x.1, x.2.1⟩) (fun _ h => ⟨h.1, h.2.1⟩) fun _ => rfl
theorem op24 : Opens Tryz.prog (fun l : List Dep => l.length ≤ maxLen ∧ ∀ d ∈ l, Dep.okO d) (fun l : List Dep => [rowT Dep.cells l]) 24 := (opens_slice op35 (by kernel_rfl) (by kernel_rfl)).map id (fun _ h => h) fun _ => rfl
theorem op25 : Opens Tryz.prog (fun l : List Ru => l.length ≤ maxLen ∧ ∀ d ∈ l, Ru.okO d) (fun l : List Ru => [rowT Ru.cells l]) 25 := (opens_slice op96 (by kernel_rfl) (by kernel_rfl)).map id (fun _ h => h) fun _ => rfl
theorem op27 : Opens Tryz.prog (fun _ : Man => True) Man.cells 27 :=
 (opens_struct (opensF_cons 1 op9 (opensF_cons 4 op23 (opensF_cons 1 op24 (opensF_cons 1 op25 (opensF_nil (n := 7)) (by kernel_rfl)) (by kernel_rfl)) (by kernel_rfl)) (by kernel_rfl)) (by kernel_rfl) (by kernel_rfl)).map
  (fun x => ⟨x.1, x.2.1, x.2.2.1, x.2.2.2.1⟩) (fun _ _ => trivial) fun _ => rfl
theorem op28 : Opens Tryz.prog (fun l : List Man => l.length ≤ maxLen) (fun l : List Man => [rowT Man.cells l]) 28 := (opens_slice op27 (by kernel_rfl) (by kernel_rfl)).map id (fun _ h => h.1) fun _ => rfl
end Go.Proofs.YtgipehooceecpaaGreatDoorAbs
namespace Go.Proofs.YtgipehooceecpaaGreatDoorAbs
set_option linter.unusedSimpArgs false
set_option linter.unusedVariables false
open Go Go.RowKit Go.Proofs
set_option maxRecDepth 100000
theorem two_of {α : Type} : ∀ {l : List α}, l.length = 2 → ∃ a b, l = [a, b]
 | [a, b], _ => ⟨a, b, rfl⟩
theorem five_of {α : Type} : ∀ {l : List α}, l.length = 5 → ∃ a b c d e, l = [a, b, c, d, e]
 | [a, b, c, d, e], _ => ⟨a, b, c, d, e, rfl⟩
theorem ten_of {α : Type} : ∀ {l : List α}, l.length = 10 → ∃ a b c d e f g h i j, l = [a, b, c, d, e, f, g, h, i, j]
 | [a, b, c, d, e, f, g, h, i, j], _ => ⟨a, b, c, d, e, f, g, h, i, j, rfl⟩
theorem pair212 {enc : TypeId × Value → Unit} {w : World} {base fuel : Nat} {sp : Nat → Bool} {held : Bool} {cs : List Value} {x : DataW Unit × List MemPlace} {n : Int} {b : List UInt8}
  (h : DataW.trod enc Tryz.prog w base sp held fuel 212 cs = some x) (hx : x.1 = .agg [.lit (.int .i64 n), .lit (.string b)]) : cs = [.int .i64 n, .string (ofL b)] := by
 have hu : ∃ fs : Array Field, Tryz.prog.underlying 212 = some (.struct fs) ∧ fs.size = 2 ∧ (fs[0]?.map fun f => (f.type, f.offset)) = some (85, 0) ∧ (fs[1]?.map fun f => (f.type, f.offset)) = some (9, 1) := by
  have hk : (match Tryz.prog.underlying 212 with | some (.struct fs) => fs.size == 2 && ((fs[0]?.map fun f => (f.type, f.offset)) == some (85, 0) && (fs[1]?.map fun f => (f.type, f.offset)) == some (9, 1)) | _ => false) = true := by kernel_rfl
  split at hk
  ·rename_i fs hf
   simp only [Bool.and_eq_true, beq_iff_eq] at hk
   exact ⟨fs, hf, hk.1, hk.2.1, hk.2.2⟩
  ·cases hk
 obtain ⟨fs, hf, h2, f0, f1⟩ := hu
 obtain ⟨xs, m, rfl, rfl, hl, hxl, hat⟩ := DataW.trod_struct hf h
 obtain ⟨g0, hg0, e0⟩ := Option.map_eq_some_iff.1 f0
 obtain ⟨g1, hg1, e1⟩ := Option.map_eq_some_iff.1 f1
 injection e0 with e00 e01
 injection e1 with e10 e11
 have a0 := hat 0 g0 hg0
 have a1 := hat 1 g1 hg1
 rw [e00, e01] at a0
 rw [e10, e11] at a1
 have c85 : Tryz.prog.cellsOf 85 = 1 := by kernel_rfl
 have c9 : Tryz.prog.cellsOf 9 = 1 := by kernel_rfl
 have c212 : Tryz.prog.cellsOf 212 = 2 := by kernel_rfl
 have u85 : Tryz.prog.underlying 85 = some (.int .i64) := by kernel_rfl
 have u9 : Tryz.prog.underlying 9 = some .string := by kernel_rfl
 rw [c85] at a0
 rw [c9] at a1
 rw [c212] at hl
 injection hx with hx
 rw [h2] at hxl
 obtain ⟨x0, x1, rfl⟩ := two_of hxl
 obtain ⟨p, q, rfl⟩ := two_of hl
 simp at a0 a1 hx
 obtain ⟨k, hc0, hx0, _⟩ := DataW.trod_int u85 a0
 obtain ⟨s, hc1, hx1, _⟩ := DataW.trod_string u9 a1
 subst hx0; subst hx1
 simp at hc0 hc1 hx
 subst hc0; subst hc1
 obtain ⟨rfl, h3⟩ := hx
 rw [← h3]
 simp [ofL]
theorem signs_cells {enc : TypeId × Value → Unit} {w : World} {base fuel : Nat} {sp : Nat → Bool} {held : Bool} {cs : List Value} {p : List MemPlace}
  (h : DataW.trod enc Tryz.prog w base sp held fuel 213 cs = some (Proofs.YtgipehooceecpaaGreatDoor.Rows.laid_hogget_span_signs, p)) : cs = signsV := by
 have u213 : Tryz.prog.underlying 213 = some (.array 5 212) := by kernel_rfl
 have c212 : Tryz.prog.cellsOf 212 = 2 := by kernel_rfl
 have c213 : Tryz.prog.cellsOf 213 = 10 := by kernel_rfl
 obtain ⟨xs, m, rfl, hx, hl, hxl, hat⟩ := DataW.trod_array u213 h
 rw [c212] at hat
 rw [c213] at hl
 have hx1 := congrArg Prod.fst hx
 simp only at hx1
 unfold Proofs.YtgipehooceecpaaGreatDoor.Rows.laid_hogget_span_signs at hx1
 injection hx1 with hx1
 obtain ⟨x0, x1, x2, x3, x4, rfl⟩ := five_of hxl
 obtain ⟨d0, d1, d2, d3, d4, d5, d6, d7, d8, d9, rfl⟩ := ten_of hl
 simp at hx1
 obtain ⟨y0, y1, y2, y3, y4⟩ := hx1
 have b0 := pair212 (hat 0 (by omega)) y0.symm
 have b1 := pair212 (hat 1 (by omega)) y1.symm
 have b2 := pair212 (hat 2 (by omega)) y2.symm
 have b3 := pair212 (hat 3 (by omega)) y3.symm
 have b4 := pair212 (hat 4 (by omega)) y4.symm
 simp at b0 b1 b2 b3 b4
 simp [signsV, b0, b1, b2, b3, b4, ofL]
end Go.Proofs.YtgipehooceecpaaGreatDoorAbs
namespace Go.Proofs.YtgipehooceecpaaGreatDoorAbs
set_option linter.unusedSimpArgs false
set_option linter.unusedVariables false
open Go Go.RowKit Go.Proofs
set_option maxRecDepth 100000
theorem maxLen_le {n : Nat} (h : n ≤ maxLen) : n ≤ 9223372036854775807 := h
-- the tables
def laidL : List (String × DataW Unit) := Proofs.YtgipehooceecpaaGreatDoor.Rows.validAloneRow.laid
theorem var_ext {w w' : World} (h : ExtC (fun _ => False) w w') {n : String} {cs : Array Value} (hv : w.var? Tryz.prog n = some cs) : w'.var? Tryz.prog n = some cs := by
 unfold World.var? at hv ⊢
 cases hg : Tryz.prog.globalNamed n with
 | none => rw [hg] at hv; cases hv
 | some g =>
  rw [hg] at hv
  simp only [Option.bind_some] at hv ⊢
  cases ho : w.heap[g]? with
  | none => rw [ho] at hv; cases hv
  | some o =>
   rw [ho] at hv
   cases o <;> simp at hv
   subst hv
   rw [h.same g _ ho rfl (fun h => h)]
theorem cell_ext {w w' : World} (h : ExtC (fun _ => False) w w') {a : Addr} {v : Value} (hv : w.cell? a = some v) : w'.cell? a = some v := by
 unfold World.cell? at hv ⊢
 cases ho : w.heap[a.block]? with
 | none => rw [ho] at hv; cases hv
 | some o =>
  rw [ho] at hv
  cases o <;> simp at hv
  rw [h.same a.block _ ho rfl (fun h => h)]
  simpa using hv
theorem gl_ext {w w' : World} (h : ExtC (fun _ => False) w w') (hg : Gl.ok Tryz.prog w) : Gl.ok Tryz.prog w' := by
 obtain ⟨h1, ⟨a, b, h2⟩, ⟨c, d, h3⟩, ⟨m, h4⟩, h5⟩ := hg
 exact ⟨var_ext h h1, ⟨a, b, var_ext h h2⟩, ⟨c, d, var_ext h h3⟩, ⟨m, cell_ext h h4⟩, fun i v hv => cell_ext h (h5 i v hv)⟩
theorem star : "*" ++ "errors.errorString" = "*errors.errorString" := by decide
theorem row287 (u : TypeId) (h : Tryz.prog.typeName? 3 u = some "*errors.errorString") : u = 287 :=
 typeName_ptr_named (nm := "errors.errorString") (by rw [star]; kernel_rfl) (by kernel_rfl) (by decide) u (by rw [star]; exact h)
theorem und223 : ∃ ms, Tryz.prog.underlying 223 = some (.interface ms) := by
 have h : (Tryz.prog.underlying 223).any (fun | .interface _ => true | _ => false) = true := by kernel_rfl
 cases hu : Tryz.prog.underlying 223 with
 | none => rw [hu] at h; cases h
 | some x => rw [hu] at h; cases x <;> first | exact ⟨_, rfl⟩ | cases h
theorem gl_of {W : World} (hL : laidMetH Tryz.prog laidL W) (hsh : W.ShapedOpen Tryz.prog) : Gl.ok Tryz.prog W := by
 rw [MakeChecks.laidMetH_plain _ _ _ (by kernel_rfl)] at hL
 have h3 := hL.tail.tail
 have h5 := h3.tail.tail
 have h6 := h5.tail
 have h7 := h6.tail
 obtain ⟨ms, hi⟩ := und223
 obtain ⟨a5, s5, v5, _⟩ := laid_sentinel h5 (g := 6) (ti := 223) (tp := 287) (te := 289) (ts := 9) (by kernel_rfl) (by kernel_rfl) hi row287 (by kernel_rfl) Tryz.underlying289 rfl rfl (by kernel_rfl) (by kernel_rfl) (by kernel_rfl)
 obtain ⟨a6, s6, v6, _⟩ := laid_sentinel h6 (g := 5) (ti := 223) (tp := 287) (te := 289) (ts := 9) (by kernel_rfl) (by kernel_rfl) hi row287 (by kernel_rfl) Tryz.underlying289 rfl rfl (by kernel_rfl) (by kernel_rfl) (by kernel_rfl)
 refine ⟨?_, ⟨_, _, v6⟩, ⟨_, _, v5⟩, ?_, ?_⟩
 ·exact Lib.tabIs_of_head (g := 2) (t := 260) (e := 210) (n := 20) (by kernel_rfl) (by kernel_rfl) (by kernel_rfl) (by kernel_rfl) (by kernel_rfl) (by kernel_rfl) h3
 ·exact cell_of_shapedOpen_int (t := 3) (zero := #[.int .i64 0]) hsh (of_decide_eq_true (by kernel_rfl)) (by kernel_rfl) rfl (by kernel_rfl) (by kernel_rfl) (by kernel_rfl)
 ·have hg0 : Tryz.prog.globalNamed "hogget/span.signs" = some 0 := by kernel_rfl
  have hty : (Tryz.prog.globals[0]?).map (·.type) = some 213 := by kernel_rfl
  obtain ⟨ps, ⟨g', t', cs, fuel, p, q, hg', ht', hvar, hd, _, _⟩, _⟩ := h7
  obtain rfl := Option.some.inj (hg0.symm.trans hg')
  obtain rfl := Option.some.inj (hty.symm.trans ht')
  have hcs := signs_cells hd
  intro i v hv
  rw [World.var?_cell hg0 hvar i]
  have : cs[i]? = cs.toList[i]? := by simp
  rw [this, hcs]; exact hv
-- the witness
def litsOf : DataW Unit → List Value
 | .agg l => l.filterMap fun | .lit (.int k n) => some (.int k n) | _ => none
 | _ => []
def lits2Of : DataW Unit → List Value
 | .agg l => l.flatMap litsOf
 | _ => []
noncomputable def low : Nat := (World.holding Tryz.prog default ⟨#[], #[], []⟩).heap.size
noncomputable def laidWorld (os : Os) : World :=
 let w0 := World.holding Tryz.prog os ⟨#[.cells #[.string ⟨#[118, 97, 108, 117, 101, 32, 111, 117, 116, 32, 111, 102, 32, 114, 97, 110, 103, 101]⟩] 289, .cells #[.string ⟨#[105, 110, 118, 97, 108, 105, 100, 32, 115, 121, 110, 116, 97, 120]⟩] 289], #[], []⟩
 let put (h : Array Obj) (g : Nat) (cs : List Value) : Array Obj := h.modify g fun
  | .cells _ t frozen => .cells cs.toArray t frozen
  | o => o
 let h0 := put w0.heap 0 signsV
 let h1 := put h0 2 (litsOf Proofs.YtgipehooceecpaaGreatDoor.Rows.laid_internal_strconv_uint64pow10)
 let h2 := put h1 3 (litsOf Proofs.YtgipehooceecpaaGreatDoor.Rows.laid_unicode_utf8_first)
 let h3 := put h2 4 (lits2Of Proofs.YtgipehooceecpaaGreatDoor.Rows.laid_unicode_utf8_acceptRanges)
 let h4 := put h3 5 [.iface 287 (.pointer (some ⟨low + 1, 0, none⟩))]
 let h5 := put h4 6 [.iface 287 (.pointer (some ⟨low, 0, none⟩))]
 let h6 := put h5 7 (litsOf Proofs.YtgipehooceecpaaGreatDoor.Rows.laid_math_bits_deBruijn32tab)
 let h7 := put h6 8 (litsOf Proofs.YtgipehooceecpaaGreatDoor.Rows.laid_math_bits_deBruijn64tab)
 { w0 with heap := h7 }
theorem laid_met (os : Os) (args : Array Value) : laidMet Tryz.prog laidL ((laidWorld os).forCall (fun _ _ => 0) ⟨#[], args, []⟩).memory :=
 laidMet_of_run' 8 (by kernel_rfl) (by kernel_rfl)
end Go.Proofs.YtgipehooceecpaaGreatDoorAbs
namespace Go.Proofs.YtgipehooceecpaaGreatDoorAbs
set_option linter.unusedSimpArgs false
set_option linter.unusedVariables false
open Go Go.RowKit Go.Proofs
set_option maxRecDepth 100000
set_option maxHeartbeats 400000
structure Cmp {α : Type} (f : α → α → Int) : Prop where
 anti : ∀ a b, f b a = - f a b
 trans : ∀ a b c, f a b < 0 → f b c < 0 → f a c < 0
 cong : ∀ a b c, f a b = 0 → f b c = f a c
def lexN {α : Type} (f g : α → α → Int) (a b : α) : Int := if f a b = 0 then g a b else f a b
theorem Cmp.on {α β : Type} {f : α → α → Int} (hf : Cmp f) (k : β → α) : Cmp (fun a b => f (k a) (k b)) :=
 ⟨fun a b => hf.anti _ _, fun a b c => hf.trans _ _ _, fun a b c => hf.cong _ _ _⟩
def clsP (a : Bs) : Int := if numP (bsL a) = true then 0 else 1
def numK (a : Bs) : Int := if numP (bsL a) = true then atoiN (bsL a) else 0
def txtK (a : Bs) : Bs := if numP (bsL a) = true then ⟨#[]⟩ else a
def lastP (a : Bs) : Int := if a = ⟨#[]⟩ then 1 else 0
def rowsP (a : Bs) : List Bs := if a = ⟨#[]⟩ then [] else strs (spl (bsL a))
def verL : Ver → Ver → Int := lexN (fun a b => cmpI a.maj b.maj) (lexN (fun a b => cmpI a.min b.min) (lexN (fun a b => cmpI a.pat b.pat) (lexN (fun a b => cmpI (lastP a.pre) (lastP b.pre)) (fun a b => rowsN (rowsP a.pre) (rowsP b.pre)))))
def manL : Man → Man → Int := lexN (fun a b => cmpB a.name b.name) (fun a b => verL a.ver b.ver)
-- bounds
theorem bigR_sz {r : Rg} (h : bigR r = false) : r.length ≤ 20 ∧ (∀ l ∈ r, l.length ≤ 20 ∧ ∀ b ∈ l, b.ver.pre.size ≤ 300) := by
 simp only [bigR, Bool.or_eq_false_iff, decide_eq_false_iff_not, List.any_eq_false] at h
 refine ⟨by omega, fun l hl => ?_⟩
 have h2 : bigA l = false := by simpa using h.2 l hl
 simp only [bigA, Bool.or_eq_false_iff, decide_eq_false_iff_not, List.any_eq_false] at h2
 exact ⟨by omega, fun b hb => by
  have h3 : bigB b = false := by simpa using h2.2 b hb
  simp only [bigB, decide_eq_false_iff_not] at h3
  omega⟩
theorem bigR_rsz {r : Rg} (h : bigR r = false) : Rg.sz r := by
 obtain ⟨h1, h2⟩ := bigR_sz h
 exact ⟨by omega, fun l hl => ⟨by have := (h2 l hl).1; omega, fun b hb => by have := (h2 l hl).2 b hb; omega⟩⟩
theorem bigM_dsz {m : Man} (h : bigM m = false) : m.name.size ≤ 300 ∧ m.ver.pre.size ≤ 300 ∧ (m.deps.length ≤ 40 ∧ ∀ d ∈ m.deps, d.name.size ≤ 300 ∧ bigR d.range = false) ∧ (m.rules.length ≤ 40 ∧ ∀ d ∈ m.rules, d.name.size ≤ 300 ∧ bigR d.range = false) := by
 simp only [bigM, Bool.or_eq_false_iff, decide_eq_false_iff_not, List.any_eq_false] at h
 obtain ⟨⟨⟨⟨⟨h1, h2⟩, h3⟩, h4⟩, h5⟩, h6⟩ := h
 refine ⟨by omega, by omega, ⟨by omega, fun d hd => ?_⟩, by omega, fun d hd => ?_⟩
 ·have := h5 d hd
  simp only [bigD, Bool.or_eq_true, decide_eq_true_eq, not_or, Bool.not_eq_true] at this
  exact ⟨by omega, this.2⟩
 ·have := h6 d hd
  simp only [bigU, Bool.or_eq_true, decide_eq_true_eq, not_or, Bool.not_eq_true] at this
  exact ⟨by omega, this.2⟩
theorem bigM_sz {m : Man} (h : bigM m = false) : Man.sz m := by
 obtain ⟨h1, h2, ⟨h3, h4⟩, h5, h6⟩ := bigM_dsz h
 exact ⟨by omega, by omega, ⟨by omega, fun d hd => ⟨by have := (h4 d hd).1; omega, bigR_rsz (h4 d hd).2⟩⟩, by omega, fun d hd => ⟨by have := (h6 d hd).1; omega, bigR_rsz (h6 d hd).2⟩⟩
theorem bigT_len {t : List Pl} (h : bigT t = false) : t.length ≤ 210 ∧ (t.length ≤ 40 ∨ 200 < t.length) ∧ ∀ p ∈ t, p.name.size ≤ 300 ∧ p.ver.pre.size ≤ 300 := by
 simp only [bigT, Bool.or_eq_false_iff, decide_eq_false_iff_not, List.any_eq_false] at h
 refine ⟨by omega, by omega, fun p hp => ?_⟩
 have := h.2 p hp
 simp only [bigP, bigV, Bool.or_eq_true, decide_eq_true_eq, not_or] at this
 exact ⟨by omega, by omega⟩
theorem bigT_ok {t : List Pl} (h : bigT t = false) : OKs t := by
 obtain ⟨h1, _, h3⟩ := bigT_len h
 exact ⟨by omega, fun p hp => by have := h3 p hp; omega⟩
theorem bigI_sz {L : List Man} (h : bigI L = false) : L.length ≤ 110 ∧ ∀ m ∈ L, bigM m = false := by
 simp only [bigI, Bool.or_eq_false_iff, decide_eq_false_iff_not, List.any_eq_false] at h
 exact ⟨by omega, fun m hm => by simpa using h.2 m hm⟩
end Go.Proofs.YtgipehooceecpaaGreatDoorAbs
namespace Go.Proofs.YtgipehooceecpaaGreatDoorAbs
set_option linter.unusedSimpArgs false
set_option linter.unusedVariables false
open Go Go.RowKit Go.Proofs
set_option maxRecDepth 100000
set_option maxHeartbeats 400000
theorem bigM_okS {m : Man} (h : bigM m = false) : Man.okS m := by
 obtain ⟨h1, h2, ⟨h3, h4⟩, h5, h6⟩ := bigM_dsz h
 refine ⟨⟨by omega, fun d hd => ?_⟩, by omega, fun d hd => ?_⟩
 ·obtain ⟨a, b⟩ := h4 d hd
  obtain ⟨c, e⟩ := bigR_sz b
  exact ⟨by omega, by omega, fun l hl => by have := (e l hl).1; omega⟩
 ·obtain ⟨a, b⟩ := h6 d hd
  obtain ⟨c, e⟩ := bigR_sz b
  exact ⟨by omega, fun l hl => by have := (e l hl).1; omega⟩
theorem bigW_sz {root : Man} {L : List Man} {t : List Pl} (h : bigW root L t = false) : bigM root = false ∧ bigI L = false ∧ bigT t = false := by
 simpa [bigW] using h
theorem valSz_of {root : Man} {L : List Man} {t : List Pl} (h1 : bigM root = false) (h2 : bigI L = false) (h3 : bigT t = false) : ValSz root L t := by
 obtain ⟨a, b⟩ := bigI_sz h2
 obtain ⟨c, _, d⟩ := bigT_len h3
 exact ⟨bigM_sz h1, bigM_okS h1, ⟨by omega, fun m hm => bigM_sz (b m hm)⟩, fun m hm => bigM_okS (b m hm), bigT_ok h3, fun p hp => by have := d p hp; omega⟩
theorem codeV_zero {root : Man} {L : List Man} {t : List Pl} : codeV root L t = 0 ↔ manCheck root true = 0 ∧ idxCheck L = 0 ∧ checkN t = 0 := by
 simp only [codeV, valCodes, orN]
 constructor
 ·intro h
  split at h
  ·split at h
   ·split at h
    ·exact ⟨by assumption, by assumption, by assumption⟩
    ·exact absurd h (by assumption)
   ·exact absurd h (by assumption)
  ·exact absurd h (by assumption)
 ·rintro ⟨h1, h2, h3⟩
  rw [if_pos h1, if_pos h2, if_pos h3]
-- Names
def namedT (t : List Pl) (m : Man) : Bool := t.any fun p => decide (p.name = m.name)
-- Alone
theorem check_root : checkN [rootP] = 0 := by decide +kernel
theorem alone_to (d : Dep) : toN [rootP] 0 d = -1 := by
 unfold toN
 rw [if_neg (by simp), if_neg (by simp)]
 have g := check_iff.1 check_root
 refine res_root g (i := 0) (by simp) ?_ (by decide)
 rw [chF_none]
 intro k hk h1 h2
 have : k = 0 := by simpa using hk
 subst this
 exact absurd h1 (by decide)
theorem alone_holds (d : Dep) : holdsV [rootP] 0 d = decide (d.kind = 3) := by
 have : holdsF [rootP] 0 = true := by decide +kernel
 rw [holdsV, if_pos this, alone_to, if_pos (by decide)]
theorem alone_below : belowL [rootP] 0 = [0] := by decide +kernel
theorem alone_plain {root : Man} {L : List Man} (h1 : manCheck root true = 0) (h2 : idxCheck L = 0) : validN root L [rootP] = (ofF root.deps root.rules true).all fun d => decide (d.kind = 3) := by
 have hc : codeV root L [rootP] = 0 := codeV_zero.2 ⟨h1, h2, check_root⟩
 have hh : holdsF [rootP] 0 = true := by decide +kernel
 have hf : fineV root L [rootP] 0 = (ofF root.deps root.rules true).all fun d => decide (d.kind = 3) := by
  simp only [fineV, manVal, if_pos hh, if_true, decide_true]
  congr 1
  funext d; exact alone_holds d
 rw [validN, hc, wrongL, alone_below]
 simp only [List.filter, hf]
 cases (ofF root.deps root.rules true).all fun d => decide (d.kind = 3) <;> rfl
-- Each
-- Peers
end Go.Proofs.YtgipehooceecpaaGreatDoorAbs
namespace Go.Proofs.YtgipehooceecpaaGreatDoorAbs
set_option linter.unusedSimpArgs false
set_option linter.unusedVariables false
open Go Go.RowKit Go.Proofs
set_option maxRecDepth 100000
set_option maxHeartbeats 4000000
theorem CallsOK.weakJs {P : Program} [Gl P] {f : FuncId} {xs : List AV} {r : AV} {J J' : Js} (h : CallsOK P f xs r J) (hlen : J.length = J'.length)
  (hJ : ∀ (i : Nat) e cs, J[i]? = some (e, cs) → ∃ ds, J'[i]? = some (e, ds) ∧ WkTL cs ds) : CallsOK P f xs r J' := by
 have e1 : ∀ {i : Nat} {o : AObj}, ofJ J i = some o → ∃ e cs ds, J[i]? = some (e, cs) ∧ o = .row e cs ∧ J'[i]? = some (e, ds) ∧ ofJ J' i = some (.row e ds) ∧ WkTL cs ds := by
  intro i o ho
  unfold ofJ at ho ⊢
  cases hi : J[i]? with
  | none => rw [hi] at ho; cases ho
  | some p =>
   rw [hi] at ho
   simp only [Option.map_some, Option.some.injEq] at ho
   obtain ⟨ds, h1, h2⟩ := hJ i p.1 p.2 hi
   exact ⟨p.1, p.2, ds, rfl, ho.symm, h1, by rw [h1]; rfl, h2⟩
 have e2 : ∀ {i : Nat} {o : AObj}, ofJ J' i = some o → ∃ e cs ds, o = .row e ds ∧ ofJ J i = some (.row e cs) ∧ WkTL cs ds := by
  intro i o ho
  cases hi : J[i]? with
  | none =>
   have : J'[i]? = none := by rw [List.getElem?_eq_none_iff] at hi ⊢; omega
   unfold ofJ at ho
   rw [this] at ho; cases ho
  | some p =>
   obtain ⟨ds, h1, h2⟩ := hJ i p.1 p.2 hi
   unfold ofJ at ho
   rw [h1] at ho
   simp only [Option.map_some, Option.some.injEq] at ho
   exact ⟨p.1, p.2, ds, ho.symm, by unfold ofJ; rw [hi]; rfl, h2⟩
 refine ⟨h.1, h.2.1, fun w us F hF hΓ hx => (h.2.2 w us F hF hΓ hx).mono fun en w' hh => ?_⟩
 obtain ⟨u, E', rfl, hv, hR, hEF, hb, hge⟩ := hh
 refine ⟨u, E', rfl, hv, ⟨hR.inj, fun i b hi => ?_, hR.lt, fun i o hi ha => ?_, fun i => ?_, fun b => ?_, hR.nF, hR.Flt, hR.good⟩, hEF, hb, hge⟩
 ·obtain ⟨o, h1, h2⟩ := hR.dom i b hi
  obtain ⟨e, cs, ds, _, rfl, _, h3, _⟩ := e1 h1
  exact ⟨_, h3, rfl⟩
 ·obtain ⟨e, cs, ds, rfl, h1, hw⟩ := e2 hi
  obtain ⟨hl, hat⟩ := hw.at
  rcases hR.obj i _ h1 rfl with ⟨b, hb, us', q1, q2, q3⟩ | ⟨hN, e', he⟩
  ·refine .inl ⟨b, hb, us', q1, by omega, fun j c x hc hx => ?_⟩
   have hi : j < cs.length := by rw [hl]; exact (List.getElem?_eq_some_iff.1 hc).1
   exact hat j _ c (List.getElem?_eq_getElem hi) hc _ _ _ (q3 j _ x (List.getElem?_eq_getElem hi) hx)
  ·injection he with he1 he2
   subst he2
   cases ds with
   | nil => exact .inr ⟨hN, e, rfl⟩
   | cons _ _ => simp at hl
 ·rw [hR.K i]
  exact ⟨fun ⟨o, h⟩ => by obtain ⟨e, cs, ds, _, _, _, h3, _⟩ := e1 h; exact ⟨_, h3⟩, fun ⟨o, h⟩ => by obtain ⟨e, cs, ds, _, h3, _⟩ := e2 h; exact ⟨_, h3⟩⟩
 ·rw [hR.W b]
  exact ⟨fun ⟨i, o, h1, h2, h3⟩ => by obtain ⟨e, cs, ds, _, rfl, _, h4, _⟩ := e1 h2; exact ⟨i, _, h1, h4, rfl⟩, fun ⟨i, o, h1, h2, h3⟩ => by obtain ⟨e, cs, ds, rfl, h4, _⟩ := e2 h2; exact ⟨i, _, h1, h4, rfl⟩⟩
def freeR : Rg := [[]]
def v1 : Ver := ⟨1, 0, 0, ⟨#[]⟩⟩
def v2 : Ver := ⟨2, 0, 0, ⟨#[]⟩⟩
def twoR : Rg := [[⟨5, v2⟩]]
theorem free_ok : CallsOK Tryz.prog 132 [] (.agg [.row 0 1]) [(83, flat Alt.cells freeR)] := by
 refine CallsOK.weakJ (cs := [.v (.slice none 0 0)]) ?_ (.cons .nil .nil)
 refine callsOK mixed Tryz.call132 Tryz.func132 rfl (by rw [Tryz.ntmps132]; simp) ?_ rfl
 rw [Tryz.ntmps132]
 repeat with_reducible refine aw_assoc ?_
 first | with_reducible refine aw_region0 (by decide +kernel) fun K' hK => ?_ | with_reducible refine aw_toS (aw_region0 (by decide +kernel) fun K' hK => ?_)
 simp []
 first | refine hK _ _ _ ?_ | done
 clear K' hK
 repeat with_reducible refine aw_assoc ?_
 first | with_reducible refine aw_region0 (by decide +kernel) fun K' hK => ?_ | with_reducible refine aw_toS (aw_region0 (by decide +kernel) fun K' hK => ?_)
 simp []
 first | refine hK _ _ _ ?_ | done
 clear K' hK
 repeat with_reducible refine aw_assoc ?_
 first | with_reducible refine aw_ret ?_ | with_reducible refine aw_retL ?_ | with_reducible refine aw_skipL ?_
 simp [blockK, loopK, Post, resA, res1, expT, expA, exp1, expM, expL, okT, okA, ok1, rowOf, Tryz.f132]
theorem two_ok : CallsOK Tryz.prog 133 [] (.agg [.row 0 1]) [(83, flat Alt.cells twoR)] := by
 refine callsOK mixed Tryz.call133 Tryz.func133 rfl (by rw [Tryz.ntmps133]; simp) ?_ rfl
 rw [Tryz.ntmps133]
 repeat with_reducible refine aw_assoc ?_
 first | with_reducible refine aw_region0 (by decide +kernel) fun K' hK => ?_ | with_reducible refine aw_toS (aw_region0 (by decide +kernel) fun K' hK => ?_)
 simp []
 first | refine hK _ _ _ ?_ | done
 clear K' hK
 repeat with_reducible refine aw_assoc ?_
 first | with_reducible refine aw_region0 (by decide +kernel) fun K' hK => ?_ | with_reducible refine aw_toS (aw_region0 (by decide +kernel) fun K' hK => ?_)
 simp []
 first | refine hK _ _ _ ?_ | done
 clear K' hK
 repeat with_reducible refine aw_assoc ?_
 first | with_reducible refine aw_ret ?_ | with_reducible refine aw_retL ?_ | with_reducible refine aw_skipL ?_
 simp [blockK, loopK, Post, resA, res1, expT, expA, exp1, expM, expL, okT, okA, ok1, rowOf, Tryz.f133]
 rfl
end Go.Proofs.YtgipehooceecpaaGreatDoorAbs
namespace Go.Proofs.YtgipehooceecpaaGreatDoorAbs
set_option linter.unusedSimpArgs false
set_option linter.unusedVariables false
open Go Go.RowKit Go.Proofs
set_option maxRecDepth 100000
set_option maxHeartbeats 4000000
def nA : Bs := ⟨#[97]⟩
def nB : Bs := ⟨#[98]⟩
def nC : Bs := ⟨#[99]⟩
def smallRoot : Man := ⟨⟨#[]⟩, ⟨0, 0, 0, ⟨#[]⟩⟩, [⟨1, nA, freeR⟩, ⟨3, nB, twoR⟩], []⟩
def smallX : List Man := [⟨nA, v1, [⟨4, nC, freeR⟩], []⟩, ⟨nC, v1, [], []⟩]
def gT1 : List Pl := [rootP, ⟨0, nA, v1⟩]
def gT2 : List Pl := [rootP, ⟨0, nA, v1⟩, ⟨0, nC, v1⟩]
def gT3 : List Pl := [rootP, ⟨0, nA, v1⟩, ⟨0, nC, v1⟩, ⟨0, nB, v1⟩]
theorem g_code1 : codeV smallRoot smallX gT1 = 0 := by decide +kernel
theorem g_code2 : codeV smallRoot smallX gT2 = 0 := by decide +kernel
theorem g_code3 : codeV smallRoot smallX gT3 = 0 := by decide +kernel
theorem g_code0 : codeV smallRoot smallX [] = 150 := by decide +kernel
theorem fine_at {root : Man} {L : List Man} {t : List Pl} {i : Int} {m : Man} {E : List Dep} (hm : manVal root L t i = some m) (ho : ofF m.deps root.rules (decide (i = 0)) = E) : fineV root L t i = E.all (holdsV t i) := by
 unfold fineV
 rw [hm]
 simp only [ho]
theorem of_small {ds : List Dep} {b : Bool} {S : List Bs} {E : List Dep} (h1 : namesOf (byM b ds) = S) (h2 : S.Pairwise leB') (h3 : (S.map fun n => edgeOf [] (findD (byM b ds) n)) = E) : ofF ds [] b = E := by
 unfold ofF
 rw [h1, sortN_self h2, h3]
instance (a b : Bs) : Decidable (leB' a b) := by unfold leB'; infer_instance
theorem of_r : ofF smallRoot.deps smallRoot.rules true = smallRoot.deps := of_small (S := [nA, nB]) (by decide +kernel) (by decide +kernel) (by decide +kernel)
theorem of_a : ofF [⟨4, nC, freeR⟩] smallRoot.rules false = [⟨4, nC, freeR⟩] := of_small (S := [nC]) (by decide +kernel) (by decide +kernel) (by decide +kernel)
theorem of_c : ofF [] smallRoot.rules false = [] := of_small (S := []) (by decide +kernel) (by decide +kernel) (by decide +kernel)
theorem g_f0 {t : List Pl} (h : holdsF t 0 = true) : fineV smallRoot smallX t 0 = smallRoot.deps.all (holdsV t 0) := fine_at (m := smallRoot) (by rw [manVal, if_pos h, if_pos rfl]) of_r
theorem g_f1 {t : List Pl} {i : Int} (h : manVal smallRoot smallX t i = some ⟨nA, v1, [⟨4, nC, freeR⟩], []⟩) (hi : decide (i = 0) = false) : fineV smallRoot smallX t i = [(⟨4, nC, freeR⟩ : Dep)].all (holdsV t i) := fine_at h (by rw [hi]; exact of_a)
theorem g_f2 {t : List Pl} {i : Int} (h : manVal smallRoot smallX t i = some ⟨nC, v1, [], []⟩) (hi : decide (i = 0) = false) : fineV smallRoot smallX t i = true := fine_at (E := []) h (by rw [hi]; exact of_c)
theorem g_fine {t : List Pl} {bl : List Int} {W : List Int} (hb : belowL t 0 = bl) (h : (bl.filter fun i => !fineV smallRoot smallX t i) = W) : wrongL smallRoot smallX t = W := by rw [wrongL, hb, h]
theorem g_wrong1 : wrongL smallRoot smallX gT1 = [1] := by
 have f0 : fineV smallRoot smallX gT1 0 = true := (g_f0 (by decide +kernel)).trans (by decide +kernel)
 have f1 : fineV smallRoot smallX gT1 1 = false := (g_f1 (by decide +kernel) (by decide)).trans (by decide +kernel)
 exact g_fine (bl := [0, 1]) (by decide +kernel) (by simp [f0, f1])
theorem g_wrong2 : wrongL smallRoot smallX gT2 = [] := by
 have f0 : fineV smallRoot smallX gT2 0 = true := (g_f0 (by decide +kernel)).trans (by decide +kernel)
 have f1 : fineV smallRoot smallX gT2 1 = true := (g_f1 (by decide +kernel) (by decide)).trans (by decide +kernel)
 have f2 : fineV smallRoot smallX gT2 2 = true := g_f2 (by decide +kernel) (by decide)
 exact g_fine (bl := [0, 1, 2]) (by decide +kernel) (by simp [f0, f1, f2])
theorem g_wrong3 : wrongL smallRoot smallX gT3 = [0, 3] := by
 have f0 : fineV smallRoot smallX gT3 0 = false := (g_f0 (by decide +kernel)).trans (by decide +kernel)
 have f1 : fineV smallRoot smallX gT3 1 = true := (g_f1 (by decide +kernel) (by decide)).trans (by decide +kernel)
 have f2 : fineV smallRoot smallX gT3 2 = true := g_f2 (by decide +kernel) (by decide)
 have f3 : fineV smallRoot smallX gT3 3 = false := by
  have : manVal smallRoot smallX gT3 3 = none := by decide +kernel
  rw [fineV, this]
 exact g_fine (bl := [0, 1, 2, 3]) (by decide +kernel) (by simp [f0, f1, f2, f3])
theorem g_to : toN gT3 1 ⟨1, nC, []⟩ = 2 := by decide +kernel
theorem g_big : bigM smallRoot = false ∧ bigI smallX = false ∧ bigT gT1 = false ∧ bigT gT2 = false ∧ bigT gT3 = false ∧ bigT [] = false := by decide +kernel
theorem g_w1 : wrongR smallRoot smallX gT1 = (.tup [.row 0 1, iV 0], [(3, flat iC [1])]) := by
 rw [wrongR, if_pos g_code1, if_neg (by rw [g_wrong1]; simp), g_wrong1]; rfl
theorem g_w2 : wrongR smallRoot smallX gT2 = (.tup [.v (.slice none 0 0), iV 0], []) := by
 rw [wrongR, if_pos g_code2, if_pos g_wrong2]
theorem g_w3 : wrongR smallRoot smallX gT3 = (.tup [.row 0 2, iV 0], [(3, flat iC [0, 3])]) := by
 rw [wrongR, if_pos g_code3, if_neg (by rw [g_wrong3]; simp), g_wrong3]; rfl
theorem g_v2 : validN smallRoot smallX gT2 = true := by rw [validN, g_code2, g_wrong2]; rfl
theorem g_v0 : validN smallRoot smallX [] = false := by rw [validN, g_code0]; rfl
theorem g_sz1 : ValSz smallRoot smallX gT1 := valSz_of g_big.1 g_big.2.1 g_big.2.2.1
theorem g_sz2 : ValSz smallRoot smallX gT2 := valSz_of g_big.1 g_big.2.1 g_big.2.2.2.1
theorem g_sz3 : ValSz smallRoot smallX gT3 := valSz_of g_big.1 g_big.2.1 g_big.2.2.2.2.1
theorem g_sz0 : ValSz smallRoot smallX [] := valSz_of g_big.1 g_big.2.1 g_big.2.2.2.2.2
theorem flat_rfl_x : flat Man.cells smallX = [sV nA, iV 1, iV 0, iV 0, sV ⟨#[]⟩, .sl 1 [iV 4, sV nC, .sl 1 [.sl 0 []]], .sl 0 [], sV nC, iV 1, iV 0, iV 0, sV ⟨#[]⟩, .sl 0 [], .sl 0 []] := rfl
theorem small_ok79 : CallsOK Tryz.prog 79 [] (.tup [.agg [sV ⟨#[]⟩, iV 0, iV 0, iV 0, sV ⟨#[]⟩, .row 0 2, .v (.slice none 0 0)], .row 1 2]) [(35, flat Dep.cells smallRoot.deps), (27, flat Man.cells smallX)] := by
 refine CallsOK.weakJs (J := [(35, flat Dep.cells smallRoot.deps), (27, [sV nA, iV 1, iV 0, iV 0, sV ⟨#[]⟩, .sl 1 [iV 4, sV nC, .sl 1 [.sl 0 []]], .v (.slice none 0 0), sV nC, iV 1, iV 0, iV 0, sV ⟨#[]⟩, .v (.slice none 0 0), .v (.slice none 0 0)])]) ?_ rfl ?_
 ·refine callsOK mixed Tryz.call79 Tryz.func79 rfl (by rw [Tryz.ntmps79]; simp) ?_ rfl
  rw [Tryz.ntmps79]
  repeat with_reducible refine aw_assoc ?_
  first | with_reducible refine aw_region0 (by decide +kernel) fun K' hK => ?_ | with_reducible refine aw_toS (aw_region0 (by decide +kernel) fun K' hK => ?_)
  simp []
  first | refine hK _ _ _ ?_ | done
  clear K' hK
  repeat with_reducible refine aw_assoc ?_
  first | with_reducible refine aw_region0 (by decide +kernel) fun K' hK => ?_ | with_reducible refine aw_toS (aw_region0 (by decide +kernel) fun K' hK => ?_)
  simp []
  first | refine hK _ _ _ ?_ | done
  clear K' hK
  repeat with_reducible refine aw_assoc ?_
  first | with_reducible refine aw_region0 (by decide +kernel) fun K' hK => ?_ | with_reducible refine aw_toS (aw_region0 (by decide +kernel) fun K' hK => ?_)
  simp []
  refine acall_new free_ok (by simp) ?_
  simp [addJ_one]
  refine acall_new two_ok (by simp) ?_
  simp [addJ_one]
  first | refine hK _ _ _ ?_ | done
  clear K' hK
  repeat with_reducible refine aw_assoc ?_
  first | refine aw_regionL (some 0) [3, 2] (by decide +kernel) (by decide +kernel) (fun p' hp' => by cases hp'; exact ⟨0, 0, by simp, by simp [rootA]⟩) fun K' hK => ?_ | refine aw_toS (aw_regionL (some 0) [3, 2] (by decide +kernel) (by decide +kernel) (fun p' hp' => by cases hp'; exact ⟨0, 0, by simp, by simp [rootA]⟩) fun K' hK => ?_)
  simp []
  refine acall_new free_ok (by simp) ?_
  simp [addJ_one]
  first | refine hK _ _ _ ?_ | done
  clear K' hK
  repeat with_reducible refine aw_assoc ?_
  first | with_reducible refine aw_ret ?_ | with_reducible refine aw_retL ?_ | with_reducible refine aw_skipL ?_
  simp [blockK, loopK, Post, resA, res1, expT, expA, exp1, expM, expL, okT, okA, ok1, rowOf, Tryz.f79]
  exact ⟨rfl, rfl, ⟨rfl, rfl⟩, rfl⟩
 ·intro i e cs h
  match i with
  | 0 => simp at h; obtain ⟨rfl, rfl⟩ := h; exact ⟨_, rfl, WkTL.refl _⟩
  | 1 =>
   simp at h; obtain ⟨rfl, rfl⟩ := h
   rw [flat_rfl_x]
   exact ⟨_, rfl, .cons (.refl _) (.cons (.refl _) (.cons (.refl _) (.cons (.refl _) (.cons (.refl _) (.cons (.refl _) (.cons .nil (.cons (.refl _) (.cons (.refl _) (.cons (.refl _) (.cons (.refl _) (.cons (.refl _) (.cons .nil (.cons .nil .nil)))))))))))))⟩
  | i + 2 => simp at h
end Go.Proofs.YtgipehooceecpaaGreatDoorAbs
namespace Go.Proofs.YtgipehooceecpaaGreatDoorAbs
set_option linter.unusedSimpArgs false
set_option linter.unusedVariables false
open Go Go.RowKit Go.Proofs
set_option maxRecDepth 100000
set_option maxHeartbeats 4000000
def smallA : List AV := [sV ⟨#[]⟩, iV 0, iV 0, iV 0, sV ⟨#[]⟩, rowT Dep.cells smallRoot.deps, .v (.slice none 0 0)]
theorem wk_small {P : Program} [Gl P] : Wk P (.agg smallA) (.agg smallRoot.cells) :=
 .agg (.cons (.refl _) (.cons (.refl _) (.cons (.refl _) (.cons (.refl _) (.cons (.refl _) (.cons (.refl _) (.cons .nilRow .nil)))))))
theorem g_wrong1_ok : CallsOK Tryz.prog 35 [.agg smallA, rowT Man.cells smallX, rowT Pl.cells gT1] (.tup [.row 0 1, iV 0]) [(3, flat iC [1])] := by
 have := wrong35_ok _ _ _ g_sz1
 rw [g_w1] at this
 exact this.weak (.cons wk_small (.cons (.refl _) (.cons (.refl _) .nil)))
theorem g_wrong2_ok : CallsOK Tryz.prog 35 [.agg smallA, rowT Man.cells smallX, rowT Pl.cells gT2] (.tup [.v (.slice none 0 0), iV 0]) [] := by
 have := wrong35_ok _ _ _ g_sz2
 rw [g_w2] at this
 exact this.weak (.cons wk_small (.cons (.refl _) (.cons (.refl _) .nil)))
theorem g_wrong3_ok : CallsOK Tryz.prog 35 [.agg smallA, rowT Man.cells smallX, rowT Pl.cells gT3] (.tup [.row 0 2, iV 0]) [(3, flat iC [0, 3])] := by
 have := wrong35_ok _ _ _ g_sz3
 rw [g_w3] at this
 exact this.weak (.cons wk_small (.cons (.refl _) (.cons (.refl _) .nil)))
theorem g_valid2_ok : CallsOK Tryz.prog 38 [.agg smallA, rowT Man.cells smallX, rowT Pl.cells gT2] (bV true) [] := by
 have := valid38_ok _ _ _ g_sz2
 rw [g_v2] at this
 exact this.weak (.cons wk_small (.cons (.refl _) (.cons (.refl _) .nil)))
theorem g_valid0_ok : CallsOK Tryz.prog 38 [.agg smallA, rowT Man.cells smallX, .v (.slice none 0 0)] (bV false) [] := by
 have := valid38_ok _ _ _ g_sz0
 rw [g_v0] at this
 exact this.weak (.cons wk_small (.cons (.refl _) (.cons .nilRow .nil)))
theorem g_to_ok : CallsOK Tryz.prog 28 [rowT Pl.cells gT3, iV 1, .agg [iV 1, sV nC, .v (.slice none 0 0)]] (iV 2) [] := by
 have := to28_ok gT3 g_sz3.2.2.2.2.1 1 ⟨1, nC, []⟩
 rw [g_to] at this
 exact this.weak (.cons (.refl _) (.cons (.refl _) (.cons (.agg (.cons (.refl _) (.cons (.refl _) (.cons .nilRow .nil)))) .nil)))
end Go.Proofs.YtgipehooceecpaaGreatDoorAbs
namespace Go.Proofs.YtgipehooceecpaaGreatDoorAbs
set_option linter.unusedSimpArgs false
set_option linter.unusedVariables false
open Go Go.RowKit Go.Proofs
set_option maxRecDepth 100000
set_option maxHeartbeats 8000000
theorem gives26_ok : CallsOK Tryz.prog 26 [] (bV true) [] := by
 refine callsOK mixed Tryz.call26 Tryz.func26 rfl (by rw [Tryz.ntmps26]; simp) ?_ rfl
 rw [Tryz.ntmps26]
 repeat with_reducible refine aw_assoc ?_
 first | with_reducible refine aw_region0 (by decide +kernel) fun K' hK => ?_ | with_reducible refine aw_toS (aw_region0 (by decide +kernel) fun K' hK => ?_)
 simp []
 first | refine hK _ _ _ ?_ | done
 clear K' hK
 repeat with_reducible refine aw_assoc ?_
 first | with_reducible refine aw_region0 (by decide +kernel) fun K' hK => ?_ | with_reducible refine aw_toS (aw_region0 (by decide +kernel) fun K' hK => ?_)
 simp []
 refine acall_new small_ok79 (by simp) ?_
 simp [addJ_two]
 first | refine hK _ _ _ ?_ | done
 clear K' hK
 repeat with_reducible refine aw_assoc ?_
 first | with_reducible refine aw_region0 (by decide +kernel) fun K' hK => ?_ | with_reducible refine aw_toS (aw_region0 (by decide +kernel) fun K' hK => ?_)
 simp []
 first | refine hK _ _ _ ?_ | done
 clear K' hK
 repeat with_reducible refine aw_assoc ?_
 first | with_reducible refine aw_region0 (by decide +kernel) fun K' hK => ?_ | with_reducible refine aw_toS (aw_region0 (by decide +kernel) fun K' hK => ?_)
 simp []
 first | refine hK _ _ _ ?_ | done
 clear K' hK
 refine aw_gen (fun s G nx => s 1 = .ptr 2 0 ∧ s 2 = .row 1 2 ∧ s 3 = .ptr 3 0 ∧ s 4 = .row 4 2 ∧ nx = 5 ∧ G 0 = some (.row 35 (flat Dep.cells smallRoot.deps)) ∧ G 1 = some (.row 27 (flat Man.cells smallX)) ∧ G 2 = some (.var 27 [sV ⟨#[]⟩, iV 0, iV 0, iV 0, sV ⟨#[]⟩, .row 0 2, .v (.slice none 0 0)]) ∧ G 3 = some (.var 23 v1.cells) ∧ G 4 = some (.row 58 (flat Pl.cells gT1))) ?_ ?_
 ·exact ⟨by simp, by simp, by simp, by simp, by simp, by simp, by simp, by simp, by simp; rfl, by simp; rfl⟩
 rintro s G nx ⟨s1, s2, s3, s4, rfl, g0, g1, g2, g3, g4⟩
 have c35 : Tryz.prog.cellsOf 35 = 3 := by kernel_rfl
 have c27 : Tryz.prog.cellsOf 27 = 7 := by kernel_rfl
 have c58 : Tryz.prog.cellsOf 58 = 6 := by kernel_rfl
 have t0 : treeOf Tryz.prog G (.row 0 2) = some (rowT Dep.cells smallRoot.deps) := treeOf_of g0 c35 rfl
 have t1 : treeOf Tryz.prog G (.row 1 2) = some (rowT Man.cells smallX) := treeOf_of g1 c27 rfl
 have t4 : treeOf Tryz.prog G (.row 4 2) = some (rowT Pl.cells gT1) := treeOf_of g4 c58 rfl
 have sees : ∀ {x T}, treeOf Tryz.prog G x = some T → (∃ i n, x = .row i n) → seesA Tryz.prog G [.agg [sV ⟨#[]⟩, iV 0, iV 0, iV 0, sV ⟨#[]⟩, .row 0 2, .v (.slice none 0 0)], .row 1 2, x] = some [.agg smallA, rowT Man.cells smallX, T] := by
  rintro x T hx ⟨i, n, rfl⟩
  simp only [seesA, seeA, looksA, lookA, t0, t1, hx]
  rfl
 repeat with_reducible refine aw_assoc ?_
 first | with_reducible refine aw_region0 (by decide +kernel) fun K' hK => ?_ | with_reducible refine aw_toS (aw_region0 (by decide +kernel) fun K' hK => ?_)
 simp [s1, s2, s4, g2]
 refine acall_keep g_wrong1_ok ⟨rfl, rfl⟩ (sees t4 ⟨_, _, rfl⟩) ?_
 simp [addJ_one]
 first | refine hK _ _ _ ?_ | done
 clear K' hK
 repeat with_reducible refine aw_assoc ?_
 first | with_reducible refine aw_region0 (by decide +kernel) fun K' hK => ?_ | with_reducible refine aw_toS (aw_region0 (by decide +kernel) fun K' hK => ?_)
 simp [s3, s4, g3, g4, treeOf_row, srcOf_row]
 first | refine hK _ _ _ ?_ | done
 clear K' hK
 refine aw_gen (fun s G nx => s 1 = .ptr 2 0 ∧ s 2 = .row 1 2 ∧ s 3 = .ptr 3 0 ∧ s 4 = .row 7 3 ∧ s 5 = .row 5 1 ∧ s 6 = iV 0 ∧ nx = 8 ∧ G 0 = some (.row 35 (flat Dep.cells smallRoot.deps)) ∧ G 1 = some (.row 27 (flat Man.cells smallX)) ∧ G 2 = some (.var 27 [sV ⟨#[]⟩, iV 0, iV 0, iV 0, sV ⟨#[]⟩, .row 0 2, .v (.slice none 0 0)]) ∧ G 3 = some (.var 23 v1.cells) ∧ G 5 = some (.row 3 (flat iC [1])) ∧ G 7 = some (.row 58 (flat Pl.cells gT2))) ?_ ?_
 ·exact ⟨by simp [s1], by simp [s2], by simp [s3], by simp, by simp, by simp, by simp, by simp [g0], by simp [g1], by simp [g2], by simp [g3], by simp, by simp; rfl⟩
 clear sees t0 t1 t4 s1 s2 s3 s4 g0 g1 g2 g3 g4 s G
 rintro s G nx ⟨s1, s2, s3, s4, s5, s6, rfl, g0, g1, g2, g3, g5, g7⟩
 have t0 : treeOf Tryz.prog G (.row 0 2) = some (rowT Dep.cells smallRoot.deps) := treeOf_of g0 c35 rfl
 have t1 : treeOf Tryz.prog G (.row 1 2) = some (rowT Man.cells smallX) := treeOf_of g1 c27 rfl
 have t7 : treeOf Tryz.prog G (.row 7 3) = some (rowT Pl.cells gT2) := treeOf_of g7 c58 rfl
 have sees : seesA Tryz.prog G [.agg [sV ⟨#[]⟩, iV 0, iV 0, iV 0, sV ⟨#[]⟩, .row 0 2, .v (.slice none 0 0)], .row 1 2, .row 7 3] = some [.agg smallA, rowT Man.cells smallX, rowT Pl.cells gT2] := by
  simp only [seesA, seeA, looksA, lookA, t0, t1, t7]
  rfl
 repeat with_reducible refine aw_assoc ?_
 first | with_reducible refine aw_region0 (by decide +kernel) fun K' hK => ?_ | with_reducible refine aw_toS (aw_region0 (by decide +kernel) fun K' hK => ?_)
 simp [s1, s2, s4, g2]
 refine acall_keep g_wrong2_ok ⟨rfl, rfl⟩ sees ?_
 simp [addJ_nil]
 first | refine hK _ _ _ ?_ | done
 clear K' hK
 repeat with_reducible refine aw_assoc ?_
 first | with_reducible refine aw_region0 (by decide +kernel) fun K' hK => ?_ | with_reducible refine aw_toS (aw_region0 (by decide +kernel) fun K' hK => ?_)
 simp [s1, s2, s4, g2]
 refine acall_flat g_valid2_ok rfl sees ?_
 simp
 first | refine hK _ _ _ ?_ | done
 clear K' hK
 repeat with_reducible refine aw_assoc ?_
 first | with_reducible refine aw_region0 (by decide +kernel) fun K' hK => ?_ | with_reducible refine aw_toS (aw_region0 (by decide +kernel) fun K' hK => ?_)
 simp [s3, s4, g3, g7, treeOf_row, srcOf_row]
 first | refine hK _ _ _ ?_ | done
 clear K' hK
 refine aw_gen (fun s G nx => s 1 = .ptr 2 0 ∧ s 2 = .row 1 2 ∧ s 4 = .row 9 4 ∧ s 5 = .row 5 1 ∧ s 6 = iV 0 ∧ s 7 = .v (.slice none 0 0) ∧ s 8 = iV 0 ∧ s 9 = bV true ∧ nx = 10 ∧ G 0 = some (.row 35 (flat Dep.cells smallRoot.deps)) ∧ G 1 = some (.row 27 (flat Man.cells smallX)) ∧ G 2 = some (.var 27 [sV ⟨#[]⟩, iV 0, iV 0, iV 0, sV ⟨#[]⟩, .row 0 2, .v (.slice none 0 0)]) ∧ G 5 = some (.row 3 (flat iC [1])) ∧ G 9 = some (.row 58 (flat Pl.cells gT3))) ?_ ?_
 ·exact ⟨by simp [s1], by simp [s2], by simp, by simp [s5], by simp [s6], by simp, by simp, by simp, by simp, by simp [g0], by simp [g1], by simp [g2], by simp [g5], by simp; rfl⟩
 clear sees t0 t1 t7 s1 s2 s3 s4 s5 s6 g0 g1 g2 g3 g5 g7 s G
 rintro s G nx ⟨s1, s2, s4, s5, s6, s7, s8, s9, rfl, g0, g1, g2, g5, g9⟩
 have t0 : treeOf Tryz.prog G (.row 0 2) = some (rowT Dep.cells smallRoot.deps) := treeOf_of g0 c35 rfl
 have t1 : treeOf Tryz.prog G (.row 1 2) = some (rowT Man.cells smallX) := treeOf_of g1 c27 rfl
 have t9 : treeOf Tryz.prog G (.row 9 4) = some (rowT Pl.cells gT3) := treeOf_of g9 c58 rfl
 have sees : seesA Tryz.prog G [.agg [sV ⟨#[]⟩, iV 0, iV 0, iV 0, sV ⟨#[]⟩, .row 0 2, .v (.slice none 0 0)], .row 1 2, .row 9 4] = some [.agg smallA, rowT Man.cells smallX, rowT Pl.cells gT3] := by
  simp only [seesA, seeA, looksA, lookA, t0, t1, t9]
  rfl
 repeat with_reducible refine aw_assoc ?_
 first | with_reducible refine aw_region0 (by decide +kernel) fun K' hK => ?_ | with_reducible refine aw_toS (aw_region0 (by decide +kernel) fun K' hK => ?_)
 simp [s1, s2, s4, g2]
 refine acall_keep g_wrong3_ok ⟨rfl, rfl⟩ sees ?_
 simp [addJ_one]
 first | refine hK _ _ _ ?_ | done
 clear K' hK
 refine aw_gen (fun s G nx => s 1 = .ptr 2 0 ∧ s 2 = .row 1 2 ∧ s 4 = .row 9 4 ∧ s 5 = .row 5 1 ∧ s 6 = iV 0 ∧ s 7 = .v (.slice none 0 0) ∧ s 8 = iV 0 ∧ s 9 = bV true ∧ s 10 = .row 10 2 ∧ s 11 = iV 0 ∧ nx = 11 ∧ G 0 = some (.row 35 (flat Dep.cells smallRoot.deps)) ∧ G 1 = some (.row 27 (flat Man.cells smallX)) ∧ G 2 = some (.var 27 [sV ⟨#[]⟩, iV 0, iV 0, iV 0, sV ⟨#[]⟩, .row 0 2, .v (.slice none 0 0)]) ∧ G 5 = some (.row 3 (flat iC [1])) ∧ G 9 = some (.row 58 (flat Pl.cells gT3)) ∧ G 10 = some (.row 3 (flat iC [0, 3]))) ?_ ?_
 ·exact ⟨by simp [s1], by simp [s2], by simp [s4], by simp [s5], by simp [s6], by simp [s7], by simp [s8], by simp [s9], by simp, by simp, by simp, by simp [g0], by simp [g1], by simp [g2], by simp [g5], by simp [g9], by simp⟩
 clear sees t0 t1 t9 s1 s2 s4 s5 s6 s7 s8 s9 g0 g1 g2 g5 g9 s G
 rintro s G nx ⟨s1, s2, s4, s5, s6, s7, s8, s9, s10, s11, rfl, g0, g1, g2, g5, g9, g10⟩
 have c3 : Tryz.prog.cellsOf 3 = 1 := by kernel_rfl
 have d1 : decide (([1] : List Int) = [1]) = true := rfl
 have d2 : decide (([0, 3] : List Int) = [0, 3]) = true := rfl
 have i1 : CallsOK Tryz.prog 37 [rowT iC [1], rowT iC [1]] (bV true) [] := ints27_ok [1] [1] (by simp)
 have i2 : CallsOK Tryz.prog 37 [rowT iC [0, 3], rowT iC [0, 3]] (bV true) [] := ints27_ok [0, 3] [0, 3] (by simp)
 have r1 : ∀ {H : Hp} {i : Nat} {l : List Int}, H i = some (.row 3 (flat iC l)) → treeOf Tryz.prog H (.row i l.length) = some (rowT iC l) := fun h => treeOf_of h c3 rfl
 repeat with_reducible refine aw_assoc ?_
 first | with_reducible refine aw_region0 (by decide +kernel) fun K' hK => ?_ | with_reducible refine aw_toS (aw_region0 (by decide +kernel) fun K' hK => ?_)
 refine aops_part 6 fun K2 hK2 => ?_
 simp [s5, s6]
 refine acall_flat i1 rfl ?_ ?_
 ·have q1 := r1 (H := G.upd 11 (.row 3 [iV 1])) (i := 5) (l := [1]) (by simp [g5])
  have q2 := r1 (H := G.upd 11 (.row 3 [iV 1])) (i := 11) (l := [1]) (by simp; rfl)
  simp only [seesA, seeA, lookA]
  simp only [List.length_cons, List.length_nil] at q1 q2
  rw [q1, q2]
 simp
 refine hK2 _ _ _ ?_
 clear K2 hK2
 have rng2 : [0, 1] = List.range 2 := rfl
 refine aops_part 21 fun K2 hK2 => ?_
 simp [s7, s8, s9, s10, s11, rng2]
 refine acall_flat i2 rfl ?_ ?_
 ·have q1 := r1 (H := (G.upd 11 (.row 3 [iV 1])).upd 12 (.row 3 [iV 0, iV 3])) (i := 10) (l := [0, 3]) (by simp [g10])
  have q2 := r1 (H := (G.upd 11 (.row 3 [iV 1])).upd 12 (.row 3 [iV 0, iV 3])) (i := 12) (l := [0, 3]) (by simp; rfl)
  simp only [seesA, seeA, lookA]
  simp only [List.length_cons, List.length_nil] at q1 q2
  rw [q1, q2]
 simp
 refine hK2 _ _ _ ?_
 clear K2 hK2
 have t0 : treeOf Tryz.prog ((G.upd 11 (.row 3 [iV 1])).upd 12 (.row 3 [iV 0, iV 3])) (.row 0 2) = some (rowT Dep.cells smallRoot.deps) := treeOf_of (by simp [g0]) c35 rfl
 have t1 : treeOf Tryz.prog ((G.upd 11 (.row 3 [iV 1])).upd 12 (.row 3 [iV 0, iV 3])) (.row 1 2) = some (rowT Man.cells smallX) := treeOf_of (by simp [g1]) c27 rfl
 have t9 : treeOf Tryz.prog ((G.upd 11 (.row 3 [iV 1])).upd 12 (.row 3 [iV 0, iV 3])) (.row 9 4) = some (rowT Pl.cells gT3) := treeOf_of (by simp [g9]) c58 rfl
 refine aops_part 5 fun K2 hK2 => ?_
 simp [s4]
 refine acall_flat g_to_ok rfl ?_ ?_
 ·simp only [seesA, seeA, looksA, lookA, t9]
  rfl
 simp
 refine hK2 _ _ _ ?_
 clear K2 hK2
 simp [s1, s2, g2]
 refine acall_flat g_valid0_ok rfl ?_ ?_
 ·simp only [seesA, seeA, looksA, lookA, t0, t1]
  rfl
 simp
 first | refine hK _ _ _ ?_ | done
 clear K' hK
 repeat with_reducible refine aw_assoc ?_
 first | with_reducible refine aw_ret ?_ | with_reducible refine aw_retL ?_ | with_reducible refine aw_skipL ?_
 simp [blockK, loopK, Post, resA, res1, expT, expA, exp1, expM, expL, okT, okA, ok1, rowOf, Tryz.f26]
end Go.Proofs.YtgipehooceecpaaGreatDoorAbs
namespace Go.Proofs.YtgipehooceecpaaGreatDoorAbs
set_option linter.unusedSimpArgs false
set_option linter.unusedVariables false
open Go Go.RowKit Go.Proofs
set_option maxRecDepth 100000
set_option maxHeartbeats 4000000
theorem any_nall {α : Type} (p : α → Bool) : ∀ l : List α, (l.any fun x => !p x) = !l.all p
 | [] => rfl
 | a :: l => by simp only [List.any_cons, List.all_cons, any_nall p l, Bool.not_and]
theorem alone9_ok (root : Man) (L : List Man) (hl : L.length ≤ 9223372036854775807) : CallsOK Tryz.prog 9 [.agg root.cells, rowT Man.cells L] (bV true) [] := by
 refine callsOK mixed Tryz.call9 Tryz.func9 rfl (by rw [Tryz.ntmps9]; simp) ?_ rfl
 rw [Tryz.ntmps9]
 repeat with_reducible refine aw_assoc ?_
 first | with_reducible refine aw_region0 (by decide +kernel) fun K' hK => ?_ | with_reducible refine aw_toS (aw_region0 (by decide +kernel) fun K' hK => ?_)
 simp []
 first | refine hK _ _ _ ?_ | done
 clear K' hK
 repeat with_reducible refine aw_assoc ?_
 first | with_reducible refine aw_region0 (by decide +kernel) fun K' hK => ?_ | with_reducible refine aw_toS (aw_region0 (by decide +kernel) fun K' hK => ?_)
 simp []
 refine acall_flat ((big21_ok root L [] hl (by simp)).weak (.cons (.refl _) (.cons (.refl _) (.cons .nilRow .nil)))) rfl (by first | rfl | (simp []; done) | (simp []; rfl) | (simp []; exact ⟨rfl, rfl⟩)) ?_
 by_cases hb : bigW root L [] = true
 ·simp [hb]
  first | refine hK _ _ _ ?_ | done
  clear K' hK
  repeat with_reducible refine aw_assoc ?_
  first | with_reducible refine aw_condP fun A B hA hB => ?_ | with_reducible refine aw_toS (aw_condP fun A B hA hB => ?_)
  simp []
  refine ⟨fun hc => hA ?_, fun hc => hB ?_⟩ <;> clear hA hB A B <;> (try (simp at hc; done)) <;> (try (exfalso; simp at hc; omega)) <;> clear hc <;> (try with_reducible refine aw_skip ?_)
  repeat with_reducible refine aw_assoc ?_
  first | with_reducible refine aw_region0 (by decide +kernel) fun K' hK => ?_ | with_reducible refine aw_toS (aw_region0 (by decide +kernel) fun K' hK => ?_)
  simp []
  first | refine hK _ _ _ ?_ | done
  clear K' hK
  repeat with_reducible refine aw_assoc ?_
  first | with_reducible refine aw_ret ?_ | with_reducible refine aw_retL ?_ | with_reducible refine aw_skipL ?_
  simp [blockK, loopK, Post, resA, res1, expT, expA, exp1, expM, expL, okT, okA, ok1, rowOf, Tryz.f9]
 ·have hb' : bigW root L [] = false := by simpa using hb
  obtain ⟨b1, b2, b3⟩ := bigW_sz hb'
  have hI := bigI_sz b2
  have hsz : ValSz root L [rootP] := valSz_of b1 b2 (by decide +kernel)
  simp [hb]
  refine acall_flat (manCheck_ok root hsz.1 true) rfl (by first | rfl | (simp []; done) | (simp []; rfl) | (simp []; exact ⟨rfl, rfl⟩)) ?_
  by_cases c1 : manCheck root true = 0
  ·simp [c1]
   refine acall_flat (idxCheck_ok L hsz.2.2.1) rfl (by first | rfl | (simp []; done) | (simp []; rfl) | (simp []; exact ⟨rfl, rfl⟩)) ?_
   by_cases c2 : idxCheck L = 0
   ·simp [c2]
    first | refine hK _ _ _ ?_ | done
    clear K' hK
    repeat with_reducible refine aw_assoc ?_
    first | with_reducible refine aw_condP fun A B hA hB => ?_ | with_reducible refine aw_toS (aw_condP fun A B hA hB => ?_)
    simp []
    refine ⟨fun hc => hA ?_, fun hc => hB ?_⟩ <;> clear hA hB A B <;> (try (simp at hc; done)) <;> (try (exfalso; simp at hc; omega)) <;> clear hc <;> (try with_reducible refine aw_skip ?_)
    have hv := alone_plain (root := root) (L := L) c1 c2
    have hW := valid38_ok root L [rootP] hsz
    have hOf := of10_ok root root.rules true hsz.2.1.1 hsz.2.1.2
    have hEl : (ofF root.deps root.rules true).length ≤ 1000000000 := by
     have h1 := byM_len true root.deps
     have h2 := hsz.1.2.2.1.1
     unfold ofF
     rw [List.length_map, (sortN_perm _).length_eq]
     simp only [namesOf, List.length_map]
     omega
    generalize ofF root.deps root.rules true = E at *
    repeat with_reducible refine aw_assoc ?_
    first | with_reducible refine aw_region0 (by decide +kernel) fun K' hK => ?_ | with_reducible refine aw_toS (aw_region0 (by decide +kernel) fun K' hK => ?_)
    simp []
    refine acall_new hOf (by first | rfl | (simp []; done) | (simp []; rfl) | (simp []; exact ⟨rfl, rfl⟩)) ?_
    simp [addJ_one]
    first | refine hK _ _ _ ?_ | done
    clear K' hK
    repeat with_reducible refine aw_assoc ?_
    first | with_reducible refine aw_region0 (by decide +kernel) fun K' hK => ?_ | with_reducible refine aw_toS (aw_region0 (by decide +kernel) fun K' hK => ?_)
    simp []
    first | refine hK _ _ _ ?_ | done
    clear K' hK
    repeat with_reducible refine aw_assoc ?_
    first | with_reducible refine aw_region0 (by decide +kernel) fun K' hK => ?_ | with_reducible refine aw_toS (aw_region0 (by decide +kernel) fun K' hK => ?_)
    simp []
    first | refine hK _ _ _ ?_ | done
    clear K' hK
    repeat with_reducible refine aw_assoc ?_
    first | with_reducible refine aw_block ?_ | with_reducible refine aw_toS (aw_block ?_)
    refine aw_loop (fun s G nx => s 2 = .ptr 0 0 ∧ s 1 = rowT Man.cells L ∧ s 5 = .row 1 E.length ∧ G 0 = some (.var 27 root.cells) ∧ G 1 = some (.row 35 (flat Dep.cells E)) ∧ ∃ i : Nat, s 7 = iV i ∧ i ≤ E.length ∧ s 6 = bV ((E.take i).any fun d => !decide (d.kind = 3))) (fun s _ _ => match s 7 with | .v (.int _ n) => E.length - n.toNat | _ => 0) ?_ ?_
    ·exact ⟨by simp, by simp, by simp, by simp, by simp, 0, by simp, by omega, by simp⟩
    ·rintro s G nx hf ⟨s2, s1, s5, g0, g1, i, s7, hi, s6⟩
     have hw : IntKind.i64.wrap (↑i + 1) = ((i + 1 : Nat) : Int) := wrapS (by omega)
     repeat with_reducible refine aw_assoc ?_
     first | with_reducible refine aw_region0 (by decide +kernel) fun K' hK => ?_ | with_reducible refine aw_toS (aw_region0 (by decide +kernel) fun K' hK => ?_)
     simp [s5, s7, g1]
     first | refine hK _ _ _ ?_ | done
     clear K' hK
     repeat with_reducible refine aw_assoc ?_
     first | with_reducible refine aw_condP fun A B hA hB => ?_ | with_reducible refine aw_toS (aw_condP fun A B hA hB => ?_)
     simp []
     refine ⟨fun hi2 => hA ?_, fun hi2 => hB ?_⟩ <;> clear hA hB A B <;> (try simp at hi2) <;> (try with_reducible refine aw_skip ?_)
     ·have hstep := any_take1 (p := fun d : Dep => !decide (d.kind = 3)) hi2
      repeat with_reducible refine aw_assoc ?_
      first | with_reducible refine aw_block ?_ | with_reducible refine aw_toS (aw_block ?_)
      generalize hin : ((E.take i).any fun d => !decide (d.kind = 3)) = x at *
      cases x with
      | true =>
       repeat with_reducible refine aw_assoc ?_
       first | with_reducible refine aw_region0 (by decide +kernel) fun K' hK => ?_ | with_reducible refine aw_toS (aw_region0 (by decide +kernel) fun K' hK => ?_)
       simp [s6]
       first | refine hK _ _ _ ?_ | done
       clear K' hK
       first | with_reducible refine aw_skipL ?_ | skip
       refine blockK_normal ?_
       repeat with_reducible refine aw_assoc ?_
       first | with_reducible refine aw_region0 (by decide +kernel) fun K' hK => ?_ | with_reducible refine aw_toS (aw_region0 (by decide +kernel) fun K' hK => ?_)
       simp [s7, hw]
       first | refine hK _ _ _ ?_ | done
       clear K' hK
       refine aw_skipL (loopK_normal ?_ ?_)
       ·exact ⟨by simp [s2], by simp [s1], by simp [s5], by simp [g0], by simp [g1], i + 1, by simp [hw], by omega, by rw [hstep]; simp⟩
       ·simp [s7, hw]; omega
      | false =>
       repeat with_reducible refine aw_assoc ?_
       first | with_reducible refine aw_region0 (by decide +kernel) fun K' hK => ?_ | with_reducible refine aw_toS (aw_region0 (by decide +kernel) fun K' hK => ?_)
       simp [s5, s6, s7, g1, hi2]
       refine acall_flat (needs17_ok (nth E i)) rfl (by first | rfl | (simp []; done) | (simp []; rfl) | (simp []; exact ⟨rfl, rfl⟩)) ?_
       simp
       first | refine hK _ _ _ ?_ | done
       clear K' hK
       first | with_reducible refine aw_skipL ?_ | skip
       refine blockK_normal ?_
       repeat with_reducible refine aw_assoc ?_
       first | with_reducible refine aw_region0 (by decide +kernel) fun K' hK => ?_ | with_reducible refine aw_toS (aw_region0 (by decide +kernel) fun K' hK => ?_)
       simp [s7, hw]
       first | refine hK _ _ _ ?_ | done
       clear K' hK
       refine aw_skipL (loopK_normal ?_ ?_)
       ·exact ⟨by simp [s2], by simp [s1], by simp [s5], by simp [g0], by simp [g1], i + 1, by simp [hw], by omega, by rw [hstep]; simp⟩
       ·simp [s7, hw]; omega
     ·repeat with_reducible refine aw_assoc ?_
      first | with_reducible refine aw_exit ?_ | with_reducible refine aw_exitL ?_
      refine loopK_exit (blockK_exit ?_)
      rw [List.take_of_length_le (by omega), any_nall, ← hv] at s6
      have n0 : ¬ 0 = nx := by have := fresh_lt hf g0; omega
      repeat with_reducible refine aw_assoc ?_
      first | with_reducible refine aw_region1 (by decide +kernel) (by decide +kernel) fun K' hK => ?_ | with_reducible refine aw_toS (aw_region1 (by decide +kernel) (by decide +kernel) fun K' hK => ?_)
      simp [s6, s2, s1, g0]
      refine acall_flat gives26_ok rfl (by simp) ?_
      simp [s6, s2, s1, g0]
      refine acall_new new20_ok (by simp) ?_
      simp [addJ_one, s6, s2, s1, g0, n0]
      refine acall_flat hW rfl (by first | rfl | (simp []; done) | (simp []; rfl) | (simp []; exact ⟨rfl, rfl⟩)) ?_
      simp [s6]
      first | refine hK _ _ _ ?_ | done
      clear K' hK
      repeat with_reducible refine aw_assoc ?_
      first | with_reducible refine aw_ret ?_ | with_reducible refine aw_retL ?_ | with_reducible refine aw_skipL ?_
      simp [blockK, loopK, Post, resA, res1, expT, expA, exp1, expM, expL, okT, okA, ok1, rowOf, Tryz.f9]
   ·simp [c2]
    first | refine hK _ _ _ ?_ | done
    clear K' hK
    repeat with_reducible refine aw_assoc ?_
    first | with_reducible refine aw_condP fun A B hA hB => ?_ | with_reducible refine aw_toS (aw_condP fun A B hA hB => ?_)
    simp []
    refine ⟨fun hc => hA ?_, fun hc => hB ?_⟩ <;> clear hA hB A B <;> (try (simp at hc; done)) <;> (try (exfalso; simp at hc; omega)) <;> clear hc <;> (try with_reducible refine aw_skip ?_)
    repeat with_reducible refine aw_assoc ?_
    first | with_reducible refine aw_region0 (by decide +kernel) fun K' hK => ?_ | with_reducible refine aw_toS (aw_region0 (by decide +kernel) fun K' hK => ?_)
    simp []
    first | refine hK _ _ _ ?_ | done
    clear K' hK
    repeat with_reducible refine aw_assoc ?_
    first | with_reducible refine aw_ret ?_ | with_reducible refine aw_retL ?_ | with_reducible refine aw_skipL ?_
    simp [blockK, loopK, Post, resA, res1, expT, expA, exp1, expM, expL, okT, okA, ok1, rowOf, Tryz.f9]
  ·simp [c1]
   first | refine hK _ _ _ ?_ | done
   clear K' hK
   repeat with_reducible refine aw_assoc ?_
   first | with_reducible refine aw_condP fun A B hA hB => ?_ | with_reducible refine aw_toS (aw_condP fun A B hA hB => ?_)
   simp []
   refine ⟨fun hc => hA ?_, fun hc => hB ?_⟩ <;> clear hA hB A B <;> (try (simp at hc; done)) <;> (try (exfalso; simp at hc; omega)) <;> clear hc <;> (try with_reducible refine aw_skip ?_)
   repeat with_reducible refine aw_assoc ?_
   first | with_reducible refine aw_region0 (by decide +kernel) fun K' hK => ?_ | with_reducible refine aw_toS (aw_region0 (by decide +kernel) fun K' hK => ?_)
   simp []
   first | refine hK _ _ _ ?_ | done
   clear K' hK
   repeat with_reducible refine aw_assoc ?_
   first | with_reducible refine aw_ret ?_ | with_reducible refine aw_retL ?_ | with_reducible refine aw_skipL ?_
   simp [blockK, loopK, Post, resA, res1, expT, expA, exp1, expM, expL, okT, okA, ok1, rowOf, Tryz.f9]
end Go.Proofs.YtgipehooceecpaaGreatDoorAbs
namespace Go.Proofs.YtgipehooceecpaaGreatDoorAbs
set_option linter.unusedSimpArgs false
set_option linter.unusedVariables false
open Go Go.RowKit Go.Proofs
set_option maxRecDepth 100000
set_option maxHeartbeats 4000000
def RowI (N : Nat) (G : Hp) (x : AV) (acc : List Int) : Prop := (x = .v (.slice none 0 0) ∧ acc = []) ∨ ∃ r, x = .row r acc.length ∧ r < N ∧ G r = some (.row 3 (flat iC acc)) ∧ acc ≠ []
theorem RowI.keep {N N' : Nat} {G G' : Hp} {x : AV} {acc : List Int} (h : RowI N G x acc) (hN : N ≤ N') (hg : ∀ i, i < N → G' i = G i) : RowI N' G' x acc := by
 rcases h with h | ⟨r, h1, h2, h3, h4⟩
 ·exact .inl h
 ·exact .inr ⟨r, h1, by omega, by rw [hg r h2]; exact h3, h4⟩
def man0 : Man := ⟨⟨#[]⟩, ⟨0, 0, 0, ⟨#[]⟩⟩, [], []⟩
end Go.Proofs.YtgipehooceecpaaGreatDoorAbs
namespace Go.Proofs.YtgipehooceecpaaGreatDoorAbs
set_option linter.unusedSimpArgs false
set_option linter.unusedVariables false
open Go Go.RowKit Go.Proofs
set_option maxRecDepth 100000
set_option maxHeartbeats 4000000
end Go.Proofs.YtgipehooceecpaaGreatDoorAbs
namespace Go.Proofs.YtgipehooceecpaaGreatDoorAbs
set_option linter.unusedSimpArgs false
set_option linter.unusedVariables false
open Go Go.RowKit Go.Proofs
set_option maxRecDepth 100000
set_option maxHeartbeats 4000000
def RowM (N : Nat) (G : Hp) (x : AV) (acc : List Man) : Prop := ∃ r, x = .row r acc.length ∧ r < N ∧ G r = some (.row 27 (flat Man.cells acc))
theorem RowM.keep {N N' : Nat} {G G' : Hp} {x : AV} {acc : List Man} (h : RowM N G x acc) (hN : N ≤ N') (hg : ∀ i, i < N → G' i = G i) : RowM N' G' x acc := by
 obtain ⟨r, h1, h2, h3⟩ := h
 exact ⟨r, h1, by omega, by rw [hg r h2]; exact h3⟩
def RowJ (N : Nat) (G : Hp) (x : AV) (acc : List Int) : Prop := (x = .v (.slice none 0 0) ∧ acc = []) ∨ ∃ r, x = .row r acc.length ∧ r < N ∧ G r = some (.row 3 (flat iC acc))
theorem RowJ.keep {N N' : Nat} {G G' : Hp} {x : AV} {acc : List Int} (h : RowJ N G x acc) (hN : N ≤ N') (hg : ∀ i, i < N → G i = some (.row 3 (flat iC acc)) → G' i = G i) : RowJ N' G' x acc := by
 rcases h with h | ⟨r, h1, h2, h3⟩
 ·exact .inl h
 ·exact .inr ⟨r, h1, by omega, by rw [hg r h2 h3]; exact h3⟩
def wrongO (root : Man) (L : List Man) (t : List Pl) : List Int := if codeV root L t = 0 then wrongL root L t else []
end Go.Proofs.YtgipehooceecpaaGreatDoorAbs
namespace Go.Proofs.YtgipehooceecpaaGreatDoorAbs
set_option linter.unusedSimpArgs false
set_option linter.unusedVariables false
open Go Go.RowKit Go.Proofs
set_option maxRecDepth 100000
set_option maxHeartbeats 400000
def partsR (a b : Bs) : Int := if numP (bsL a) = true ∧ numP (bsL b) = true then cmpI (numR (bsL a)) (numR (bsL b)) else if numP (bsL a) = true then -1 else if numP (bsL b) = true then 1 else cmpB a b
end Go.Proofs.YtgipehooceecpaaGreatDoorAbs
namespace Go.Proofs.YtgipehooceecpaaGreatDoorAbs
set_option linter.unusedSimpArgs false
set_option linter.unusedVariables false
open Go Go.RowKit Go.Proofs
set_option maxRecDepth 100000
set_option maxHeartbeats 4000000
end Go.Proofs.YtgipehooceecpaaGreatDoorAbs
namespace Go.Proofs.YtgipehooceecpaaGreatDoorAbs
set_option linter.unusedSimpArgs false
set_option linter.unusedVariables false
open Go Go.RowKit Go.Proofs
set_option maxRecDepth 100000
set_option maxHeartbeats 4000000
end Go.Proofs.YtgipehooceecpaaGreatDoorAbs
