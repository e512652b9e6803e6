/- Maps of the call's own, by keys that are text or numbers. -/
import Derived.Test.YtomidniaekeafaaB2
import Derived.MapKept
namespace Go.Proofs.YtomidniaekeafaaAbs
open Go Go.RowKit

def mapI (P : Program) (t : TypeId) : Option (TypeDesc × TypeId) :=
  match P.underlying t with
  | some (.map key elem) => match P.underlying key with
    | some .string => some (.string, elem)
    | some (.int k) => some (.int k, elem)
    | _ => none
  | _ => none
def zvI (P : Program) (t : TypeId) : Option AV :=
  match (P.info? t).bind (·.zero) with
  | some (.agg xs) => if xs.toList.all (·.oneCell') = true then some (.agg (xs.toList.map .v)) else none
  | some x => if x.oneCell' = true then some (.v x) else none
  | none => none
def findI (d : TypeDesc) (k : Value) : List (Value × AV) → Nat → Option (Option Nat)
  | [], _ => some none
  | e :: es, i => match Instr.sameNow d k e.1 with
    | some true => some (some i)
    | some false => findI d k es (i + 1)
    | none => none
def evLookup (P : Program) (G : Hp) (t : TypeId) (x k : AV) (ok : Bool) : Option AV :=
  match mapI P t, x, k with
  | some (d, elem), .mp id, .v kv => match G id, zvI P elem with
    | some (.map es), some z => match findI d kv es 0 with
      | some (some i) => match es[i]? with
        | some e => some (if ok = true then .tup [e.2, .v (.bool true)] else e.2)
        | none => none
      | some none => some (if ok = true then .tup [z, .v (.bool false)] else z)
      | none => none
    | _, _ => none
  | _, _, _ => none
def keyA : Value → Bool
  | .string _ => true
  | .int _ _ => true
  | _ => false
def evMapUpdate (P : Program) (G : Hp) (t : TypeId) (x k v : AV) : Option Hp :=
  match mapI P t, x, k with
  | some (d, _), .mp id, .v kv => match G id with
    | some (.map es) => if keyA kv = true then match findI d kv es 0 with
      | some (some i) => some (G.upd id (.map (es.set i (kv, v))))
      | some none => some (G.upd id (.map (es ++ [(kv, v)])))
      | none => none else none
    | _ => none
  | _, _, _ => none
section
variable {P : Program} {E : En} {w : World} {G : Hp} {s : Sl} {a : Act} {nx : Nat}
theorem VR.mp_inv {id : Nat} {u : Value} {b : Nat} (h : VR P E w (.mp id) u) (hb : E.φ id = some b) : u = .map (some b) := by
  cases h with
  | tree h => cases h
  | mp _ _ h => exact h b hb
theorem mapI_spec {t elem : TypeId} {d : TypeDesc} (h : mapI P t = some (d, elem)) : ∃ key, P.underlying t = some (.map key elem) ∧ P.underlying key = some d ∧ (d = .string ∨ ∃ k, d = .int k) := by
  unfold mapI at h
  split at h
  · rename_i key el hu
    split at h
    · rename_i hk; simp at h; obtain ⟨rfl, rfl⟩ := h; exact ⟨key, hu, hk, .inl rfl⟩
    · rename_i k hk; simp at h; obtain ⟨rfl, rfl⟩ := h; exact ⟨key, hu, hk, .inr ⟨k, rfl⟩⟩
    · cases h
  · cases h
theorem zvI_sound {t : TypeId} {z : AV} (h : zvI P t = some z) : ∃ v, (∀ w, (zeroValue t).run P w = .ok v w) ∧ VR P E w z v := by
  unfold zvI at h
  cases hi : P.info? t with
  | none => simp [hi] at h
  | some i =>
    cases hz : i.zero with
    | none => simp [hi, hz] at h
    | some v =>
      simp only [hi, hz, Option.bind_some] at h
      refine ⟨v, fun w => by simp [zeroValue, typeInfo, hi, hz], ?_⟩
      split at h
      · rename_i xs hx
        injection hx with hx
        subst hx
        split at h
        · rename_i hall
          injection h with h
          subst h
          rw [List.all_eq_true] at hall
          have := vs_all2 (P := P) (E := E) (w := w) hall
          have h2 : VR P E w (.agg (xs.toList.map .v)) (.agg xs.toList.toArray) := .agg this.1 this.2 hall
          simpa using h2
        · cases h
      · rename_i x _ hx
        injection hx with hx
        subst hx
        split at h
        · rename_i h1
          injection h with h
          subst h
          exact .tree (.v h1)
        · cases h
      · cases ‹some v = none›
theorem run_pure' {α : Type} (x : α) (w : World) : (pure x : Sem α).run P w = .ok x w := by simp
theorem beq_bytes {a b : ByteArray} (h : (a == b) = true) : a = b := by
  cases a with | mk x => cases b with | mk y =>
  have h' : (x == y) = true := h
  rw [eq_of_beq h']
theorem bytes_beq (a : ByteArray) : (a == a) = true := by
  cases a with | mk x =>
  show (x == x) = true
  simp
theorem getMap {b clock : Nat} {es : Array MapEntry} (h : w.heap[b]? = some (.map es clock)) : (getObj b).run P w = .ok (.map es clock) w := by simp [getObj, Sem.run, h]
theorem putMap {b clock : Nat} {es : Array MapEntry} (h : w.heap[b]? = some (.map es clock)) (o' : Obj) : (setObj b o').run P w = .ok () { w with heap := w.heap.setIfInBounds b o' } := by simp [setObj, Sem.run, h]
theorem check_plain {key : TypeId} {d : TypeDesc} (hk : P.underlying key = some d) (hd : d = .string ∨ ∃ k, d = .int k) (e : Bool) (v : Value) : (Instr.checkKey e 10000 key v).run P w = .ok () w := by
  rw [show (10000 : Nat) = 9999 + 1 from rfl, Instr.checkKey.eq_def]
  rcases hd with rfl | ⟨k, rfl⟩ <;> simp [run_underlying hk]
def EsR (P : Program) (E : En) (w : World) (es : List (Value × AV)) (ents : List MapEntry) : Prop := ents.length = es.length ∧ ∀ (i : Nat) e en, es[i]? = some e → ents[i]? = some en → en.key = e.1 ∧ VR P E w e.2 en.val
theorem find_sound {d : TypeDesc} {k : Value} : ∀ {es : List (Value × AV)} {ents : List MapEntry} {i : Nat} {r : Option Nat}, EsR P E w es ents → findI d k es i = some r →
    ∃ r', Instr.findNow d k ents i = some r' ∧ match r with
      | none => r' = none
      | some j => ∃ e en, i ≤ j ∧ es[j - i]? = some e ∧ ents[j - i]? = some en ∧ r' = some (j, en.val) ∧ Instr.sameNow d k e.1 = some true
  | [], ents, i, r, h, hf => by
    simp [findI] at hf
    subst hf
    have : ents = [] := List.eq_nil_of_length_eq_zero (by simpa using h.1)
    subst this
    exact ⟨none, rfl, rfl⟩
  | e :: es, [], i, r, h, hf => by have := h.1; simp at this
  | e :: es, en :: ents, i, r, h, hf => by
    have h0 := h.2 0 e en rfl rfl
    simp only [findI] at hf
    simp only [Instr.findNow, h0.1]
    split at hf
    · rename_i hs
      injection hf with hf
      subst hf
      rw [hs]
      exact ⟨_, rfl, e, en, Nat.le_refl _, by simp, by simp, rfl, hs⟩
    · rename_i hs
      rw [hs]
      have ih := find_sound (es := es) (ents := ents) ⟨by have := h.1; simpa using this, fun i e' en' he hen => h.2 (i + 1) e' en' he hen⟩ hf
      obtain ⟨r', h1, h2⟩ := ih
      refine ⟨r', h1, ?_⟩
      cases r with
      | none => exact h2
      | some j =>
        obtain ⟨e', en', h3, h4, h5, h6, h7⟩ := h2
        have e1 : j - i = (j - (i + 1)) + 1 := by omega
        exact ⟨e', en', by omega, by rw [e1]; exact h4, by rw [e1]; exact h5, h6, h7⟩
    · cases hf
theorem lookup_sound (hR : Rel P E w G) {t : TypeId} {x k v : AV} {ux uk : Value} {ok : Bool} (hx : VR P E w x ux) (hk : VR P E w k uk) (h : evLookup P G t x k ok = some v) :
    ∃ u, (Instr.lookup t ux uk ok).run P w = .ok u w ∧ VR P E w v u := by
  unfold evLookup at h
  split at h
  · rename_i d elem id kv hm
    split at h
    · rename_i es z hG hz
      obtain ⟨key, hu, hkey, hd⟩ := mapI_spec hm
      obtain ⟨b, hφ, ents, clock, h1, h2, h3, h4, h5⟩ := hR.obj' hG rfl (fun e he => by cases he)
      have hux := hx.mp_inv hφ
      obtain ⟨huk, _⟩ := hk.v_inv
      subst hux; subst huk
      obtain ⟨vz, hzr, hzv⟩ := zvI_sound (E := E) (w := w) hz
      have hes : EsR P E w es ents.toList := ⟨by simpa using h2, fun i e en he hen => h3 i e en he (by simpa using hen)⟩
      have hrun : ∀ r', Instr.findNow d uk ents.toList 0 = some r' → (Instr.lookup t (.map (some b)) uk ok).run P w = .ok (match r' with
          | some (_, v) => if ok then .tuple #[v, .bool true] else v
          | none => if ok then .tuple #[vz, .bool false] else vz) w := by
        intro r' hr'
        unfold Instr.lookup
        have hg := getMap (P := P) h1
        simp only [Sem.run_bind, run_underlying hu, Result.andThen, hg]
        simp only [check_plain hkey hd, Instr.findKey, run_underlying hkey, Sem.run_bind, Result.andThen, run_pure']
        rw [hr']
        cases r' with
        | none => simp [hzr]
        | some q => obtain ⟨i, v⟩ := q; simp
      split at h
      · rename_i i hf
        obtain ⟨r', hf', e, en, _, he, hen, rfl, _⟩ := find_sound hes hf
        rw [Nat.sub_zero] at he hen
        rw [he] at h
        injection h with h
        subst h
        refine ⟨_, hrun _ hf', ?_⟩
        have hv := (hes.2 i e en he hen).2
        cases ok with
        | true => exact .tup (us := [en.val, .bool true]) rfl (fun j c u hc hu => by
            match j, hc, hu with
            | 0, hc, hu => simp at hc hu; subst hc; subst hu; exact hv
            | 1, hc, hu => simp at hc hu; subst hc; subst hu; exact .tree (.v rfl)
            | j + 2, hc, hu => simp at hc)
        | false => exact hv
      · rename_i hf
        obtain ⟨r', hf', rfl⟩ := find_sound hes hf
        injection h with h
        subst h
        refine ⟨_, hrun _ hf', ?_⟩
        cases ok with
        | true => exact .tup (us := [vz, .bool false]) rfl (fun j c u hc hu => by
            match j, hc, hu with
            | 0, hc, hu => simp at hc hu; subst hc; subst hu; exact hzv
            | 1, hc, hu => simp at hc hu; subst hc; subst hu; exact .tree (.v rfl)
            | j + 2, hc, hu => simp at hc)
        | false => exact hzv
      · cases h
    · cases h
  · cases h
theorem put_ext {b : Nat} {o o' : Obj} (hW : E.W b) (h : w.heap[b]? = some o) (hs : ({ w with heap := w.heap.setIfInBounds b o' } : World).shape? b = w.shape? b) : Ext E.W w { w with heap := w.heap.setIfInBounds b o' } := by
  refine ⟨rfl, rfl, rfl, by simp, fun x hx hn => ?_, fun x hx => ?_⟩
  · exact Array.getElem?_setIfInBounds_ne (fun e => hn (by rw [← e]; exact hW))
  · by_cases hxb : x = b
    · rw [hxb]; exact hs
    · refine shape_of_heap ?_
      exact Array.getElem?_setIfInBounds_ne (fun e => hxb e.symm)
theorem keyStays {d : TypeDesc} {k k' : Value} (h : Instr.sameNow d k k' = some true) (hk : keyA k = true) : (Instr.keyThatStays k' k).run P w = .ok k w := by
  have : Instr.sameBits 10000 k' k = true := by
    cases k <;> simp [keyA] at hk <;> cases k' <;> cases d <;> simp [Instr.sameNow] at h
    · obtain ⟨rfl, rfl⟩ := h; simp [Instr.sameBits]
    · have := beq_bytes h; subst this; simp [Instr.sameBits, bytes_beq]
  simp [Instr.keyThatStays, this]
theorem mapUpdate_sound (hR : Rel P E w G) {t : TypeId} {x k v : AV} {ux uk uv : Value} {G' : Hp} (hx : VR P E w x ux) (hk : VR P E w k uk) (hv : VR P E w v uv) (h : evMapUpdate P G t x k v = some G') :
    ∃ w', (Instr.mapUpdate t ux uk uv).run P w = .ok () w' ∧ Rel P E w' G' ∧ Ext E.W w w' := by
  unfold evMapUpdate at h
  split at h
  · rename_i d elem id kv hm
    split at h
    · rename_i es hG
      split at h
      · rename_i hkA
        obtain ⟨key, hu, hkey, hd⟩ := mapI_spec hm
        obtain ⟨b, hφ, ents, clock, h1, h2, h3, h4, h5⟩ := hR.obj' hG rfl (fun e he => by cases he)
        have hux := hx.mp_inv hφ
        obtain ⟨huk, _⟩ := hk.v_inv
        subst hux; subst huk
        have hW : E.W b := (hR.W b).2 ⟨id, _, hφ, hG, rfl⟩
        have hlt := hR.lt id b hφ
        have hes : EsR P E w es ents.toList := ⟨by simpa using h2, fun i e en he hen => h3 i e en he (by simpa using hen)⟩
        have fin : ∀ (es' : List (Value × AV)) (ents' : Array MapEntry) (clock' : Nat), (Instr.mapUpdate t (.map (some b)) uk uv).run P w = .ok () { w with heap := w.heap.setIfInBounds b (.map ents' clock') } →
            ents'.size = es'.length → (∀ (i : Nat) e en, es'[i]? = some e → ents'[i]? = some en → en.key = e.1 ∧ VR P E w e.2 en.val) → (ents'.toList.map (·.born)).Nodup → (∀ en ∈ ents'.toList, en.born < clock') → G' = G.upd id (.map es') →
            ∃ w', (Instr.mapUpdate t (.map (some b)) uk uv).run P w = .ok () w' ∧ Rel P E w' G' ∧ Ext E.W w w' := by
          intro es' ents' clock' hrun q1 q2 q3 q4 hG'
          have hnew : ({ w with heap := w.heap.setIfInBounds b (.map ents' clock') } : World).heap[b]? = some (.map ents' clock') := by simp [hlt]
          have hext : Ext E.W w { w with heap := w.heap.setIfInBounds b (.map ents' clock') } := put_ext hW h1 (by simp only [World.shape?, hnew, h1])
          refine ⟨_, hrun, ?_, hext⟩
          rw [hG']
          exact hR.put hφ hG rfl rfl hext (fun j hj => Array.getElem?_setIfInBounds_ne (fun e => hj e.symm)) ⟨ents', clock', hnew, q1, fun i e en he hen => ⟨(q2 i e en he hen).1, (q2 i e en he hen).2.ext hext (En.Le.refl _ _)⟩, q3, q4⟩
        split at h
        · rename_i i hf
          obtain ⟨r', hf', e, en, _, he, hen, rfl, hsame⟩ := find_sound hes hf
          rw [Nat.sub_zero] at he hen
          injection h with h
          have hen' : ents[i]? = some en := by simpa using hen
          have hkey1 : en.key = e.1 := (hes.2 i e en he hen).1
          have hi : i < ents.size := (Array.getElem?_eq_some_iff.1 hen').1
          have hget : ents[i] = en := (Array.getElem?_eq_some_iff.1 hen').2
          refine fin (es.set i (uk, v)) (ents.set i { en with key := uk, val := uv } hi) clock ?_ (by simpa using h2) (fun j e' en' he' hen'' => ?_) ?_ (fun x hx => ?_) h.symm
          · have hstay : (Instr.keyThatStays en.key uk).run P w = .ok uk w := by rw [hkey1]; exact keyStays hsame hkA
            have hmod : (ents.modify i fun e => { e with key := uk, val := uv }) = ents.set i { en with key := uk, val := uv } hi := by
              apply Array.ext
              · simp
              · intro j h1 h2
                rw [Array.getElem_modify, Array.getElem_set]
                split
                · rename_i hij; subst hij; rw [hget]
                · rfl
            have hg := getMap (P := P) h1
            have hp := putMap (P := P) h1
            unfold Instr.mapUpdate
            simp only [Sem.run_bind, run_underlying hu, Result.andThen, hg]
            simp only [check_plain hkey hd, Instr.findKey, run_underlying hkey, Sem.run_bind, Result.andThen, run_pure']
            rw [hf']
            simp only [run_pure', hen', Option.map_some, Option.getD_some, hstay, Sem.run_bind, Result.andThen, hp]
            rw [hmod]
          · rw [Array.getElem?_set] at hen''
            rw [List.getElem?_set] at he'
            by_cases hij : i = j
            · subst hij
              rw [if_pos rfl] at hen''
              rw [if_pos rfl, if_pos (by omega)] at he'
              injection hen'' with hen''
              injection he' with he'
              subst hen''; subst he'
              exact ⟨rfl, hv⟩
            · rw [if_neg hij] at hen'' he'
              exact h3 j e' en' he' hen''
          · have : (ents.set i { en with key := uk, val := uv } hi).toList.map (·.born) = ents.toList.map (·.born) := by
              apply List.ext_getElem?
              intro j
              simp only [List.getElem?_map, Array.toList_set, List.getElem?_set]
              split
              · rename_i hij; subst hij
                split
                · simp [hen]
                · rename_i hn; simp at hn; omega
              · rfl
            rw [this]; exact h4
          · rw [Array.toList_set] at hx
            rcases List.mem_or_eq_of_mem_set hx with hx | rfl
            · exact h5 x hx
            · exact h5 en (List.mem_of_getElem? hen)
        · rename_i hf
          obtain ⟨r', hf', rfl⟩ := find_sound hes hf
          injection h with h
          refine fin (es ++ [(uk, v)]) (ents.push { key := uk, val := uv, born := clock }) (clock + 1) ?_ (by simp [h2]) (fun j e' en' he' hen'' => ?_) ?_ (fun x hx => ?_) h.symm
          · have hg := getMap (P := P) h1
            have hp := putMap (P := P) h1
            unfold Instr.mapUpdate
            simp only [Sem.run_bind, run_underlying hu, Result.andThen, hg]
            simp only [check_plain hkey hd, Instr.findKey, run_underlying hkey, Sem.run_bind, Result.andThen, run_pure']
            rw [hf']
            simp only [run_pure', Sem.run_bind, Result.andThen, hp]
          · rw [Array.getElem?_push] at hen''
            rw [List.getElem?_append] at he'
            by_cases hj : j = ents.size
            · subst hj
              rw [if_pos rfl] at hen''
              rw [if_neg (by omega), h2, Nat.sub_self] at he'
              injection hen'' with hen''
              injection he' with he'
              subst hen''; subst he'
              exact ⟨rfl, hv⟩
            · rw [if_neg hj] at hen''
              have hlt' := (Array.getElem?_eq_some_iff.1 hen'').1
              rw [if_pos (by omega)] at he'
              exact h3 j e' en' he' hen''
          · rw [Array.toList_push, List.map_append, List.nodup_append]
            refine ⟨h4, by simp, fun a ha b hb => ?_⟩
            simp at hb
            obtain ⟨en, hen, rfl⟩ := List.mem_map.1 ha
            have := h5 en hen
            omega
          · rw [Array.toList_push] at hx
            rcases List.mem_append.1 hx with hx | hx
            · have := h5 x hx; omega
            · simp at hx; subst hx; simp
        · cases h
      · cases h
    · cases h
  · cases h
end
end Go.Proofs.YtomidniaekeafaaAbs
