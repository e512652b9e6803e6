/- slices.Sorted(maps.Keys(m)), upon the call's own heap. -/
import Derived.Test.YtomidniaekeafaaD4
import Derived.Test.YtomidniaekeafaaIter
namespace Go.Proofs.YtomidniaekeafaaAbs
open Go Go.RowKit Go.Proofs Go.Maps Go.Sort Go.Shelf
open Go.WideElems (rg)

def strV (k : List UInt8) : Value := encStr k
def sortK (ks : List (List UInt8)) : List (List UInt8) := ks.mergeSort (fun x y => decide (x ≤ y))
def R0 : Value → Option (DataW Unit × List MemPlace) := fun _ => some (.nil, [])
theorem rg_str {P : Program} {k : TypeId} (hk : P.underlying k = some .string) {en : MapEntry} {x : List UInt8} (hx : en.key = encStr x) (hl : x.length ≤ maxLen) : WideElems.rd P k R0 en = some (.string x, .nil) := by
  unfold WideElems.rd
  rw [hx, encStr, WideMaps.keyOf_string_mk hk (by show x.toArray.size ≤ maxLen; simpa using hl)]
  simp [R0]
set_option maxRecDepth 100000 in
theorem sorted_keys {G : Hp} {p id nx : Nat} {es : List (Value × AV)} {ks : List (List UInt8)} (hp : G p = some (.var 53 [.mp id])) (hG : G id = some (.map es)) (hk : es.map (·.1) = ks.map encStr) (hnd : ks.Nodup) (hlen : ∀ k ∈ ks, k.length ≤ maxLen)
    (hmax : ks.length * 16 ≤ 140737488355328) (hn : G nx = none) : InlOK Try.prog 25 [.fn 38 [.ptr p 0]] G (.row nx ks.length) (G.upd nx (.row 9 ((sortK ks).map fun k => .v (encStr k)))) := by
  refine ⟨Try.call25, fun E w us hR hx => ?_⟩
  obtain ⟨u, us', rfl, hu, hx'⟩ := hx.uncons
  have : us' = [] := List.eq_nil_of_length_eq_zero (by simpa using hx'.1)
  subst this
  obtain ⟨cs, rfl, hl, hv⟩ := hu.fn_inv
  obtain ⟨c, cs', rfl, hc, hcs⟩ := (show All2 _ _ _ from ⟨hl, hv⟩ : All2 (VR Try.prog E w) [.ptr p 0] cs).uncons
  have : cs' = [] := List.eq_nil_of_length_eq_zero (by simpa using hcs.1)
  subst this
  obtain ⟨bp, hbp, uv, hv1, hv2, _, hv4⟩ := hR.obj' hp rfl (fun e he => by cases he)
  obtain ⟨b, hb, ents, clock, h1, h2, h3, h4, h5⟩ := hR.obj' hG rfl (fun e he => by cases he)
  have hcp := hc.ptr_inv hbp
  subst hcp
  match uv, hv2, hv1, hv4 with
  | [um], _, hv1, hv4 =>
  have hum := (hv4 0 _ um rfl rfl).mp_inv hb
  subst hum
  have hkeys : ents.toList.map (·.key) = ks.map encStr := by
    rw [← hk]
    apply List.ext_getElem?
    intro i
    rw [List.getElem?_map, List.getElem?_map]
    cases he : es[i]? with
    | none =>
      have : ents[i]? = none := by rw [Array.getElem?_eq_none]; rw [h2]; exact List.getElem?_eq_none_iff.1 he
      simp [this]
    | some e =>
      have hi : i < ents.size := by rw [h2]; exact (List.getElem?_eq_some_iff.1 he).1
      have hen : ents[i]? = some ents[i] := Array.getElem?_eq_getElem hi
      have := (h3 i e _ he hen).1
      simp [hi, this]
  have hklen : ks.length = ents.size := by have := congrArg List.length hkeys; simpa using this.symm
  have hu9 : Try.prog.underlying 9 = some .string := by kernel_rfl
  have hread : ∀ en ∈ ents.toList, ∃ x, x ∈ ks ∧ en.key = encStr x ∧ WideElems.rd Try.prog 9 R0 en = some (.string x, .nil) := fun en hen => by
    have : en.key ∈ ks.map encStr := by rw [← hkeys]; exact List.mem_map_of_mem hen
    obtain ⟨x, hx1, hx2⟩ := List.mem_map.1 this
    exact ⟨x, hx1, hx2.symm, rg_str hu9 hx2.symm (hlen x hx1)⟩
  have hown : w.ownsMap Try.prog 9 R0 b ks.length (.map ((ents.toList.map (rg Try.prog 9 R0)).foldr DataW.insert [])) := by
    refine ⟨ents, clock, h1, ⟨?_, ⟨h5, h4, ?_⟩, fun en hen => ?_⟩, by omega, rfl⟩
    · rw [← hklen]; simp only [maxLen]; omega
    · rw [hkeys]
      exact List.pairwise_map.2 (hnd.imp fun hne e => hne (encStr_inj e))
    · obtain ⟨x, _, _, h⟩ := hread en hen; exact ⟨_, h⟩
  have hsize : Maps.size (.map ((ents.toList.map (rg Try.prog 9 R0)).foldr DataW.insert [])) = ks.length := by
    show List.length _ = _
    rw [length_sorted]; simp [hklen]
  have hperm : (strKeys (.map ((ents.toList.map (rg Try.prog 9 R0)).foldr DataW.insert []))).Perm ks := by
    show (List.map _ _).Perm ks
    refine ((WideShapes.sorted_perm _).map _).trans ?_
    have : (ents.toList.map (rg Try.prog 9 R0)).map (fun p => strOf p.1) = ks := by
      rw [List.map_map]
      have hinj : ∀ (l : List MapEntry) (ks : List (List UInt8)), l.map (·.key) = ks.map encStr → (∀ k ∈ ks, k.length ≤ maxLen) → l.map ((fun p => strOf p.1) ∘ rg Try.prog 9 R0) = ks := by
        intro l
        induction l with
        | nil => intro ks h _; simpa using h.symm
        | cons en l ih =>
          intro ks h hk
          cases ks with
          | nil => simp at h
          | cons k ks =>
            simp only [List.map_cons, List.cons.injEq] at h
            rw [List.map_cons, ih ks h.2 (fun k hk' => hk k (by simp [hk']))]
            congr 1
            simp only [Function.comp, rg]
            rw [rg_str hu9 h.1 (hk k (by simp))]
            rfl
      exact hinj _ _ hkeys hlen
    rw [this]
  have hbp' := hR.lt p bp hbp
  have hseq : SeqGives Fence.wide 2 Try.prog 38 #[.pointer (some ⟨bp, 0, none⟩)] encStr (fun ss => ss.Perm (strKeys (.map ((ents.toList.map (rg Try.prog 9 R0)).foldr DataW.insert [])))) (Maps.size (.map ((ents.toList.map (rg Try.prog 9 R0)).foldr DataW.insert []))) w :=
    AnyZ.keys_gives (ρ := Try.keys26_ren) { Try.keys26 with } Fence.wide _ trivial rfl (by omega) bp b ks.length _ _ hbp' (by rw [cell_of_cells hv1]; rfl) hown
  have hcall := callsIn_wide.1 (AnyZ.sorted_in Try.sorted25 Fence.wide 5 trivial trivial trivial trivial rfl (by omega) (Try.sorts25 _) (enters_of Try.func37 (by kernel_rfl) rfl) 38 #[.pointer (some ⟨bp, 0, none⟩)] trivial (enters_of Try.func38 (by kernel_rfl) rfl) _ _ (by rw [hsize]; simp only [maxLen]; omega) (by rw [hsize]; exact hmax) _ hseq)
  refine hcall.mono fun e w' h => ?_
  obtain ⟨v, ss, rfl, hss, hrow, hnil, hbelow⟩ := h
  have hsort : ss.mergeSort (fun x y => decide (x ≤ y)) = sortK ks := mergeSort_of_perm (hss.trans hperm)
  have hsl : ss.length = ks.length := (hss.trans hperm).length_eq
  rw [hsort, hsl] at hrow
  have hrow : w'.ownsRow w.heap.size 9 1 v ks.length ((sortK ks).map encStr) := hrow
  have hel : Try.prog.cellsOf 9 = 1 := by kernel_rfl
  have ht26 : Try.sorted25_ren.t 26 = 9 := rfl
  have hsk : (sortK ks).length = ks.length := (List.mergeSort_perm ks _).length_eq
  obtain ⟨hlen1, hrow | ⟨g, cap, cur, rfl, hge, hcur, hcap, hcm, hcs, htake⟩⟩ := hrow
  · obtain ⟨rfl, h0⟩ := hrow
    have hsk0 : sortK ks = [] := List.eq_nil_of_length_eq_zero (by omega)
    have hA := Rel.app (w' := w') (e := 9) (all := []) hR hn (id := none) (b := none) (fun j hj => by cases hj) (fun x hx => by cases hx) (Ext.of_below _ hbelow) (fun x hx _ => hbelow.block x hx) (fun x hx => by cases hx) (fun x hx => by cases hx) (fun _ => rfl)
    refine ⟨_, E.app nx none none, rfl, ?_, by rw [hsk0]; exact hA.1, Ext.of_below _ hbelow, hA.2⟩
    refine .row (show (E.app nx none none).K nx from .inl rfl) rfl (fun b hb => ?_) (fun _ => ⟨rfl, h0⟩)
    simp [En.app] at hb
  · have hA := Rel.app (w' := w') (e := 9) (all := (sortK ks).map fun k => .v (encStr k)) hR hn (id := none) (b := some g) (fun j hj => by cases hj) (fun x hx => by injection hx with hx; subst hx; exact .inl hge) (Ext.of_below _ hbelow) (fun x hx _ => hbelow.block x hx)
      (fun x hx => by injection hx with hx; subst hx; exact (Array.getElem?_eq_some_iff.1 hcur).1) (fun x hx => by
        injection hx with hx; subst hx
        refine ⟨cur.toList, by simpa using hcur, ?_, fun i a u ha hu => ?_⟩
        · rw [List.length_map, hsk, Array.length_toList]; simp only [Array.size_eq_length_toList] at hcs ⊢; omega
        · rw [List.getElem?_map] at ha
          obtain ⟨k, hk1, rfl⟩ := Option.map_eq_some_iff.1 ha
          have hi : i < ks.length := by rw [← hsk]; exact (List.getElem?_eq_some_iff.1 hk1).1
          have : (cur.toList.take (ks.length * 1))[i]? = some u := by rw [List.getElem?_take, if_pos (by omega)]; exact hu
          rw [htake, List.getElem?_map, hk1] at this
          injection this with this
          subst this
          exact .v rfl) (fun h => by cases h)
    refine ⟨_, E.app nx none (some g), rfl, ?_, hA.1, Ext.of_below _ hbelow, hA.2⟩
    refine .row (show (E.app nx none (some g)).K nx from .inl rfl) rfl (fun b hb => ?_) (fun hN => ?_)
    · simp [En.app] at hb
      subst hb
      exact ⟨cap, 9, rfl, hcap, hcm, by simp [World.shape?, hcur, hcs, hel]⟩
    · simp [En.app] at hN
end Go.Proofs.YtomidniaekeafaaAbs
