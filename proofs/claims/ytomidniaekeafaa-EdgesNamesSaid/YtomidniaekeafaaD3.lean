/- Rules for walking. -/
import Derived.Test.YtomidniaekeafaaD2
namespace Go.Proofs.YtomidniaekeafaaAbs
open Go Go.RowKit

section
variable {P : Program} {N : Nat} {K : Exit → KS} {s : Sl} {G : Hp} {nx : Nat}
theorem aw_assoc {a b c : Code} (h : AW P N (.seq a (.seq b c)) K s G nx) : AW P N (.seq (.seq a b) c) K s G nx := by
  have e : AW P N (.seq (.seq a b) c) K = AW P N (.seq a (.seq b c)) K := by
    show AW P N a _ = AW P N a _
    congr 1
    funext e
    cases e <;> rfl
  rw [e]; exact h
theorem aw_region0 {id : Nat} {ops : Array Oper} {b : Code} (h : ∀ K' : KS, (∀ s G nx, AW P N b K s G nx → K' s G nx) → AOps P N ops ops.toList K' s G nx) : AW P N (.seq (.region id ops false) b) K s G nx :=
  ⟨fun h => (by cases h), h _ fun _ _ _ h => h⟩
theorem aw_region1 {id : Nat} {ops : Array Oper} {b : Code} (hd : okDraw ops = true) (h : ∀ K' : KS, (∀ s G nx, AW P N b K s G nx → K' s G nx) → AOps P N ops ops.toList K' s G nx) : AW P N (.seq (.region id ops true) b) K s G nx :=
  ⟨fun _ => hd, h _ fun _ _ _ h => h⟩
theorem aw_last0 {id : Nat} {ops : Array Oper} (h : ∀ K' : KS, (∀ s G nx, K .normal s G nx → K' s G nx) → AOps P N ops ops.toList K' s G nx) : AW P N (.region id ops false) K s G nx :=
  ⟨fun h => (by cases h), h _ fun _ _ _ h => h⟩
theorem aw_last1 {id : Nat} {ops : Array Oper} (hd : okDraw ops = true) (h : ∀ K' : KS, (∀ s G nx, K .normal s G nx → K' s G nx) → AOps P N ops ops.toList K' s G nx) : AW P N (.region id ops true) K s G nx :=
  ⟨fun _ => hd, h _ fun _ _ _ h => h⟩
theorem aw_cond {c : Operand} {a b r : Code} (t : Bool) (hc : evX s c = .v (.bool t)) (h1 : t = true → AW P N (.seq a r) K s G nx) (h2 : t = false → AW P N (.seq b r) K s G nx) : AW P N (.seq (.cond c a b) r) K s G nx := by
  refine .inl ⟨t, hc, ?_⟩
  cases t with
  | true => exact h1 rfl
  | false => exact h2 rfl
theorem aw_condL {c : Operand} {a b : Code} (t : Bool) (hc : evX s c = .v (.bool t)) (h1 : t = true → AW P N a K s G nx) (h2 : t = false → AW P N b K s G nx) : AW P N (.cond c a b) K s G nx := by
  refine .inl ⟨t, hc, ?_⟩
  cases t with
  | true => exact h1 rfl
  | false => exact h2 rfl
theorem aw_toS {a : Code} (h : AW P N (.seq a .skip) K s G nx) : AW P N a K s G nx := by
  have e : AW P N (.seq a .skip) K = AW P N a K := by
    show AW P N a _ = AW P N a _
    congr 1
    funext e
    cases e <;> rfl
  rw [← e]; exact h
theorem aw_skip {r : Code} (h : AW P N r K s G nx) : AW P N (.seq .skip r) K s G nx := h
theorem aw_skipL (h : K .normal s G nx) : AW P N .skip K s G nx := h
theorem aw_ret {r : Code} (h : K .ret s G nx) : AW P N (.seq .ret r) K s G nx := h
theorem aw_retL (h : K .ret s G nx) : AW P N .ret K s G nx := h
theorem aw_exit {id : Nat} {r : Code} (h : K (.exit id) s G nx) : AW P N (.seq (.exit id) r) K s G nx := h
theorem aw_exitL {id : Nat} (h : K (.exit id) s G nx) : AW P N (.exit id) K s G nx := h
/-- What a block's end does. -/
def blockK (P : Program) (N : Nat) (id : Nat) (r : Code) (K : Exit → KS) : Exit → KS
  | .normal => AW P N r K
  | .exit id' => if id' = id then AW P N r K else K (.exit id')
  | e => K e
theorem aw_block {id : Nat} {a r : Code} (h : AW P N a (blockK P N id r K) s G nx) : AW P N (.seq (.block id a) r) K s G nx := by
  have e : AW P N (.seq (.block id a) r) K = AW P N a (blockK P N id r K) := by
    show AW P N a _ = AW P N a _
    congr 1
    funext e
    cases e <;> rfl
  rw [e]; exact h
theorem blockK_normal {id : Nat} {r : Code} (h : AW P N r K s G nx) : blockK P N id r K .normal s G nx := h
theorem blockK_exit {id : Nat} {r : Code} (h : AW P N r K s G nx) : blockK P N id r K (.exit id) s G nx := by
  show (if id = id then AW P N r K else _) s G nx
  rw [if_pos rfl]; exact h
theorem blockK_pass {id id' : Nat} {r : Code} (hne : id' ≠ id) (h : K (.exit id') s G nx) : blockK P N id r K (.exit id') s G nx := by
  show (if id' = id then AW P N r K else K (.exit id')) s G nx
  rw [if_neg hne]; exact h
theorem blockK_ret {id : Nat} {r : Code} (h : K .ret s G nx) : blockK P N id r K .ret s G nx := h
/-- What a loop's round does. -/
def loopK (I : KS) (m : Nat) (μ : Sl → Hp → Nat → Nat) (K : Exit → KS) : Exit → KS
  | .normal => fun s G nx => I s G nx ∧ μ s G nx < m
  | e => K e
theorem aw_loop {a : Code} (I : KS) (μ : Sl → Hp → Nat → Nat) (h0 : I s G nx) (h : ∀ s G nx, FreshFrom G nx → I s G nx → AW P N a (loopK I (μ s G nx) μ K) s G nx) : AW P N (.loop a) K s G nx := by
  refine ⟨I, μ, h0, fun s G nx hf hI => ?_⟩
  have e : (fun e s' G' nx' => match e with
      | .normal => I s' G' nx' ∧ μ s' G' nx' < μ s G nx
      | e => K e s' G' nx') = loopK I (μ s G nx) μ K := by
    funext e
    cases e <;> rfl
  have := h s G nx hf hI
  rw [← e] at this
  exact this
theorem loopK_normal {I : KS} {m : Nat} {μ : Sl → Hp → Nat → Nat} (h : I s G nx) (hm : μ s G nx < m) : loopK I m μ K .normal s G nx := ⟨h, hm⟩
theorem loopK_exit {I : KS} {m id : Nat} {μ : Sl → Hp → Nat → Nat} (h : K (.exit id) s G nx) : loopK I m μ K (.exit id) s G nx := h
theorem loopK_ret {I : KS} {m : Nat} {μ : Sl → Hp → Nat → Nat} (h : K .ret s G nx) : loopK I m μ K .ret s G nx := h
@[simp] theorem upd_app (s : Sl) (i : Nat) (o : AV) (j : Nat) : (s.upd i o) j = if j = i then o else s j := rfl
@[simp] theorem hupd_app (s : Hp) (i : Nat) (o : AObj) (j : Nat) : (s.upd i o) j = if j = i then some o else s j := rfl
@[simp] theorem put_some (s : Sl) (i : Nat) (o : AV) : s.put (some i) o = s.upd i o := rfl
@[simp] theorem put_none (s : Sl) (o : AV) : s.put none o = s := rfl
attribute [simp] AOps AStep wantA callA evC clsOf evX dstOK AV.cells AV.one AV.mk argSl Value.oneCell' treesOf shiftT shiftA shift1 flatT flatV seesA looksA splice goInt
@[simp] theorem conc_v (x : Value) : conc (.v x) = some x := rfl
@[simp] theorem alive_var (t : TypeId) (cs : List AV) : (AObj.var t cs).alive = true := rfl
@[simp] theorem alive_row (t : TypeId) (cs : List AV) : (AObj.row t cs).alive = true := rfl
@[simp] theorem alive_frz (t : TypeId) (cs : List AV) : (AObj.frz t cs).alive = true := rfl
@[simp] theorem alive_map (es : List (Value × AV)) : (AObj.map es).alive = true := rfl
@[simp] theorem alive_dead : AObj.dead.alive = false := rfl
@[congr] theorem ACall_congr {f f' : FuncId} {as as' : List AV} {cls cls' : Nat} {K : AV → Hp → Nat → Prop} {G' : Hp} {nx' : Nat} (h1 : f = f') (h2 : as = as') (h3 : cls = cls') (h4 : G = G') (h5 : nx = nx') : ACall P f as cls K G nx = ACall P f' as' cls' K G' nx' := by
  subst h1; subst h2; subst h3; subst h4; subst h5; rfl
@[simp] theorem thenK_app (K : KS) (s : Sl) (d : Option Tmp) (v : AV) (G : Hp) (nx : Nat) : thenK K s d v G nx = K (s.put d v) G nx := rfl
theorem acall_flat {f : FuncId} {as ts : List AV} {cls : Nat} {K : AV → Hp → Nat → Prop} {r : AV} (hk : CallsOK P f ts r []) (hf : flatT r = true) (ha : seesA P G as = some ts) (h : K r G nx) : ACall P f as cls K G nx :=
  .inl ⟨_, _, ha, hk, hf, h⟩
theorem acall_new {f : FuncId} {as ts : List AV} {cls : Nat} {K : AV → Hp → Nat → Prop} {r : AV} {J : Js} (hk : CallsOK P f ts r J) (ha : (argsOf P G as).map Prod.fst = some ts) (h : K (shiftT nx r) (addJ ((argsOf P G as).elim G Prod.snd) nx J) (nx + J.length)) : ACall P f as cls K G nx := by
  obtain ⟨⟨ts', G1⟩, h1, rfl⟩ := Option.map_eq_some_iff.1 ha
  rw [h1] at h
  exact .inr (.inl ⟨_, _, _, _, h1, hk, h⟩)
theorem acall_inl {f : FuncId} {as : List AV} {cls : Nat} {K : AV → Hp → Nat → Prop} {v : AV} {G' : Hp} (nx' : Nat) (hk : FreshFrom G nx → InlOK P f as G v G') (hg : FreshFrom G nx → (cls = 3 ∨ Grows G G') ∧ FreshFrom G' nx') (h : K v G' nx') : ACall P f as cls K G nx :=
  .inr (.inr ⟨v, G', nx', fun hf => ⟨hk hf, hg hf⟩, h⟩)
theorem fresh_upd {o : AObj} (h : FreshFrom G nx) : FreshFrom (G.upd nx o) (nx + 1) := fun i hi => by
  rw [Hp.upd_ne _ _ (by omega)]; exact h i (by omega)
theorem fresh_old {o : AObj} {j : Nat} (h : FreshFrom G nx) (hj : j < nx) : FreshFrom (G.upd j o) nx := fun i hi => by
  rw [Hp.upd_ne _ _ (by omega)]; exact h i hi
theorem fresh_lt (h : FreshFrom G nx) {j : Nat} {o : AObj} (hG : G j = some o) : j < nx := by
  rcases Nat.lt_or_ge j nx with h1 | h1
  · exact h1
  · rw [h j h1] at hG; cases hG
@[simp] theorem nilCmp_v (op : BinOp) (t : TypeId) (x : Value) (y : AV) : nilCmp P op t (.v x) y = none := rfl
@[simp] theorem nilCmp_agg (op : BinOp) (t : TypeId) (cs : List AV) (y : AV) : nilCmp P op t (.agg cs) y = none := rfl
@[simp] theorem nilCmp_row (op : BinOp) (t : TypeId) (id n : Nat) (y : AV) : nilCmp P op t (.row id n) y = none := rfl
end
end Go.Proofs.YtomidniaekeafaaAbs
