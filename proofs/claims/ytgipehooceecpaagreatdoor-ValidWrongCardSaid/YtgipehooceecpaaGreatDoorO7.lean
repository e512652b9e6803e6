/- Right trees, in plain words. -/
import Derived.Test.YtgipehooceecpaaGreatDoorO6
import Derived.Shelf.Strings.SlTrimAscii
import Derived.WalkSmall
import Derived.Lib.AtoiErrMem
import Derived.Lib.AppendIntMem
import Derived.Test.YtgipehooceecpaaGreatDoorO2
import Derived.Lib.ItoaLen
namespace Go.Proofs.YtgipehooceecpaaGreatDoorAbs
set_option linter.unusedSimpArgs false
set_option linter.unusedVariables false
open Go Go.RowKit Go.Proofs
set_option maxRecDepth 100000
theorem indexByte80 (s : Bs) (c : Int) : CallsOK Tryz.prog 225 [sV s, .v (.int .u8 c)] (iV (Lib.indexByte (bsL s) c.toNat.toUInt8)) [] :=
 libV (xs := [.string s, .int .u8 c]) rfl Tryz.call225 fun w _ => Tryz.strings_IndexByte s c w
theorem cutPrefix67 (s p : Bs) : CallsOK Tryz.prog 187 [sV s, sV p] (.tup [sV (ofL (Lib.trimPrefix (bsL s) (bsL p))), bV (Lib.hasPrefix (bsL s) (bsL p))]) [] :=
 libT (xs := [.string s, .string p]) (us := [.string (ofL (Lib.trimPrefix (bsL s) (bsL p))), .bool (Lib.hasPrefix (bsL s) (bsL p))]) (by simp) Tryz.call187 fun w _ => Tryz.strings_CutPrefix s p w
theorem index95 (s : Bs) (c : UInt8) : CallsOK Tryz.prog 250 [sV s, sV ⟨#[c]⟩] (iV (Lib.indexByte (bsL s) c)) [] :=
 libV (xs := [.string s, .string ⟨#[c]⟩]) rfl Tryz.call250 fun w _ => Tryz.strings_Index_one s c w
theorem cut69 (s p : Bs) (hs : s.size < 4294967281) : CallsOK Tryz.prog 189 [sV s, sV p] (.tup [sV (ofL (Lib.cut (bsL s) (bsL p)).1), sV (ofL (Lib.cut (bsL s) (bsL p)).2.1), bV (Lib.cut (bsL s) (bsL p)).2.2]) [] :=
 libOK (xs := [.string s, .string p]) rfl Tryz.call189 fun w hw => by
  obtain ⟨m, hm⟩ := hw.2.2.2.1
  refine (Tryz.strings_Cut s p m w hs hm).mono ?_
  rintro e w' ⟨rfl, n, rfl⟩
  exact ⟨_, rfl, fun E w' => vr_tup (us := [.string (ofL (Lib.cut (bsL s) (bsL p)).1), .string (ofL (Lib.cut (bsL s) (bsL p)).2.1), .bool (Lib.cut (bsL s) (bsL p)).2.2]) (by simp), below_drewN (Below.refl _ _) n⟩
def digs : List UInt8 := [48, 49, 50, 51, 52, 53, 54, 55, 56, 57]
theorem trim96 (s : Bs) (hs : s.size ≤ 9223372036854775807) : CallsOK Tryz.prog 251 [sV s, sV ⟨#[48, 49, 50, 51, 52, 53, 54, 55, 56, 57]⟩] (sV (ofL (Lib.trimS (bsL s) digs))) [] :=
 libOK (xs := [.string s, .string ⟨#[48, 49, 50, 51, 52, 53, 54, 55, 56, 57]⟩]) rfl Tryz.call251 fun w _ => by
  refine (Any.strings_Trim_laid Tryz.lays160 (by kernel_rfl) s ⟨#[48, 49, 50, 51, 52, 53, 54, 55, 56, 57]⟩ w hs (by decide) (ascii_of_all (by decide))).mono ?_
  rintro e w' ⟨rfl, hb⟩
  exact ⟨_, rfl, fun _ _ => .tree (.v rfl), hb⟩
theorem itoa66 (n : Int) (h0 : -9223372036854775808 ≤ n) (h1 : n ≤ 9223372036854775807) : CallsOK Tryz.prog 175 [iV n] (sV (ofL (Lib.itoa n))) [] :=
 libOK (xs := [.int .i64 n]) rfl Tryz.call175 fun w hw => by
  refine (Tryz.strconv_Itoa n h0 h1 w hw.1).mono ?_
  rintro e w' ⟨rfl, k, os, rfl⟩
  exact ⟨_, rfl, fun _ _ => .tree (.v rfl), Lib.below_grow _ _ (Nat.le_refl _) _ _⟩
def atoiN (l : List UInt8) : Int := match Lib.atoiAll l with
 | .ok v => v
 | .range => Lib.atoiSat l
 | _ => 0
theorem vr_num {E : En} {w : World} {n : Int} {u : Value} : VR Tryz.prog E w (.tup [iV n, .any]) (.tuple #[.int .i64 n, u]) :=
 .tup (us := [.int .i64 n, u]) rfl fun i a x ha hx => by
  match i, ha, hx with
  | 0, ha, hx => simp at ha hx; subst ha; subst hx; exact .tree (.v rfl)
  | 1, ha, hx => simp at ha hx; subst ha; exact .any _
  | i + 2, ha, hx => simp at ha
theorem atoi97 (s : Bs) (hs : s.size ≤ 281474976710656) : CallsOK Tryz.prog 252 [sV s] (.tup [iV (atoiN (bsL s)), .any]) [] :=
 libOK (xs := [.string s]) rfl Tryz.call252 fun w hw => by
  obtain ⟨_, ⟨tp, p, h1⟩, ⟨tp2, p2, h2⟩, _⟩ := hw
  unfold atoiN
  cases h : Lib.atoiAll (bsL s) with
  | ok v =>
   refine (Tryz.strconv_Atoi_ok s (by omega) v h w).mono ?_
   rintro e w' ⟨rfl, rfl | ⟨t, rfl⟩⟩
   ·exact ⟨_, rfl, fun _ _ => vr_num, Below.refl _ _⟩
   ·exact ⟨_, rfl, fun _ _ => vr_num, Lib.bytesWorld_below _ _ _⟩
  | range =>
   refine (Tryz.strconv_Atoi_range_var s hs h tp2 p2 w h2).mono ?_
   rintro e w' ⟨N, rfl, _, _, hb⟩
   exact ⟨_, rfl, fun _ _ => vr_num, hb⟩
  | _ =>
   refine (Tryz.strconv_Atoi_syntax_var s hs h tp p w h1).mono ?_
   rintro e w' ⟨N, rfl, _, _, hb⟩
   exact ⟨_, rfl, fun _ _ => vr_num, hb⟩
set_option maxRecDepth 100000
set_option maxHeartbeats 4000000
def by8 (l : List UInt8) (i : Nat) : UInt8 := l.getD i 0
def wordB (c : UInt8) : Bool := decide ((97 : Int) ≤ (c.toNat : Int) ∧ (c.toNat : Int) ≤ 122) || decide ((48 : Int) ≤ (c.toNat : Int) ∧ (c.toNat : Int) ≤ 57)
def sepB (c : UInt8) : Bool := decide (c = 45) || decide (c = 95) || decide (c = 46)
def plAt (l : List UInt8) (i : Nat) : Bool := wordB (by8 l i) || (!decide (i = 0) && sepB (by8 l i))
def plainF (l : List UInt8) : Bool := (List.range l.length).all (plAt l) && !decide (l = [])
theorem range_all {p : Nat → Bool} {i : Nat} : (List.range (i + 1)).all p = ((List.range i).all p && p i) := by
 rw [List.range_succ, List.all_append]; simp
theorem range_false {p : Nat → Bool} {n i : Nat} (h : i < n) (hp : p i = false) : (List.range n).all p = false := by
 rw [List.all_eq_false]
 exact ⟨i, List.mem_range.2 h, by simp [hp]⟩
theorem sep_index (c : UInt8) : decide (Lib.indexByte [45, 95, 46] c < 0) = !sepB c := by
 unfold sepB
 by_cases h1 : c = 45
 ·subst h1; rfl
 ·by_cases h2 : c = 95
  ·subst h2; rfl
  ·by_cases h3 : c = 46
   ·subst h3; rfl
   ·have e1 : ((45 : UInt8) == c) = false := by simpa using fun h => h1 h.symm
    have e2 : ((95 : UInt8) == c) = false := by simpa using fun h => h2 h.symm
    have e3 : ((46 : UInt8) == c) = false := by simpa using fun h => h3 h.symm
    simp [Lib.indexByte, e1, e2, e3, h1, h2, h3]
theorem back8 (c : UInt8) : ((c.toNat : Int).toNat).toUInt8 = c := by simp
theorem empty_iff (s : Bs) : s = ⟨#[]⟩ ↔ bsL s = [] := ⟨fun h => by rw [h]; rfl, fun h => bsL_inj h⟩
theorem plain68_ok (s : Bs) (hs : s.size ≤ 4611686018427387904) : CallsOK Tryz.prog 188 [sV s] (bV (plainF (bsL s))) [] := by
 refine callsOK mixed Tryz.call188 Tryz.func188 rfl (by rw [Tryz.ntmps188]; simp) ?_ rfl
 rw [Tryz.ntmps188]
 have hl : (bsL s).length = s.size := bsL_len s
 with_reducible refine aR fun K' hK => ?_
 simp
 refine hK _ _ _ ?_; clear K' hK
 with_reducible refine aA ?_
 with_reducible refine aR fun K' hK => ?_
 simp
 refine hK _ _ _ ?_; clear K' hK
 with_reducible refine aw_block ?_
 refine aw_loop (fun t G nx => t 0 = sV s ∧ t 7 = iV s.size ∧ ∃ i : Nat, t 8 = iV i ∧ i ≤ s.size ∧ (List.range i).all (plAt (bsL s)) = true) (fun s' _ _ => match s' 8 with | .v (.int _ n) => s.size - n.toNat | _ => 0) ?_ ?_
 ·exact ⟨by simp, by simp, 0, by simp, by omega, by simp⟩
 ·rintro t G nx - ⟨t0, t7, i, t8, hi, ht⟩
  have hw : IntKind.i64.wrap (↑i + 1) = ((i + 1 : Nat) : Int) := wrapS (by omega)
  with_reducible refine aR fun K' hK => ?_
  simp [t7, t8]
  refine hK _ _ _ ?_; clear K' hK
  with_reducible refine aC fun A B hA hB => ?_
  simp
  refine ⟨fun hi2 => hA ?_, fun hi2 => hB ?_⟩ <;> clear hA hB A B <;> (try simp at hi2) <;> (try with_reducible refine aK ?_)
  ·skip
   with_reducible refine aw_block ?_
   with_reducible refine aR fun K' hK => ?_
   simp [t8]
   refine hK _ _ _ ?_; clear K' hK
   with_reducible refine aR fun K' hK => ?_
   simp [t0, t8, hi2]
   refine hK _ _ _ ?_; clear K' hK
   generalize hc : byteA s i = c
   have hcc : by8 (bsL s) i = c := hc
   refine aw_cut (fun t' G' nx' => t' 0 = sV s ∧ t' 3 = iV i ∧ t' 4 = .v (.int .u8 c.toNat) ∧ t' 5 = bV (wordB c) ∧ t' 7 = iV s.size ∧ t' 8 = iV i) ?_ ?_
   ·by_cases a1 : (97 : Int) ≤ (c.toNat : Int)
    ·by_cases a2 : (c.toNat : Int) ≤ 122
     ·skip
      with_reducible refine aS fun K' hK => ?_
      simp [a1, a2]
      refine hK _ _ _ ?_; clear K' hK
      with_reducible refine aw_end ?_
      simp [t0, t7, t8, wordB, a1, a2]
     ·have a3 : ¬ (c.toNat : Int) ≤ 57 := by omega
      by_cases a4 : (48 : Int) ≤ (c.toNat : Int)
      ·skip
       with_reducible refine aS fun K' hK => ?_
       simp [a1, a2, a3, a4]
       refine hK _ _ _ ?_; clear K' hK
       with_reducible refine aw_end ?_
       simp [t0, t7, t8, wordB, a1, a2, a3]
      ·omega
    ·by_cases a4 : (48 : Int) ≤ (c.toNat : Int)
     ·by_cases a3 : (c.toNat : Int) ≤ 57
      ·skip
       with_reducible refine aS fun K' hK => ?_
       simp [a1, a3, a4]
       refine hK _ _ _ ?_; clear K' hK
       with_reducible refine aw_end ?_
       simp [t0, t7, t8, wordB, a1, a3, a4]
      ·skip
       with_reducible refine aS fun K' hK => ?_
       simp [a1, a3, a4]
       refine hK _ _ _ ?_; clear K' hK
       with_reducible refine aw_end ?_
       simp [t0, t7, t8, wordB, a1, a3]
     ·skip
      with_reducible refine aS fun K' hK => ?_
      simp [a1, a4]
      refine hK _ _ _ ?_; clear K' hK
      with_reducible refine aw_end ?_
      simp [t0, t7, t8, wordB, a1, a4]
   ·rintro u G' nx' ⟨u0, u3, u4, u5, u7, u8⟩
    cases hwd : wordB c with
    | true =>
     rw [hwd] at u5
     with_reducible refine aR fun K' hK => ?_
     simp [u5]
     refine hK _ _ _ ?_; clear K' hK
     with_reducible refine aVk (by simp) ?_
     with_reducible refine aw_skipL ?_
     refine blockK_normal ?_
     with_reducible refine aS fun K' hK => ?_
     simp [u8, hw]
     refine hK _ _ _ ?_; clear K' hK
     refine aw_skipL (loopK_normal ?_ ?_)
     ·exact ⟨by simp [u0], by simp [u7], i + 1, by simp [hw], by omega, by rw [range_all, ht]; simp [plAt, hcc, hwd]⟩
     ·simp [t8, u8, hw]; omega
    | false =>
     rw [hwd] at u5
     cases i with
     | zero =>
      with_reducible refine aR fun K' hK => ?_
      simp [u3, u5]
      refine hK _ _ _ ?_; clear K' hK
      with_reducible refine aU (by simp) ?_
      with_reducible refine aA ?_
      with_reducible refine aR fun K' hK => ?_
      simp
      refine hK _ _ _ ?_; clear K' hK
      with_reducible refine aw_ret ?_
      simp [blockK, loopK, Post, resA, res1, expT, expA, exp1, expM, expL, okT, okA, ok1, rowOf, Tryz.f188]
      simp only [plainF, range_false (i := 0) (n := (bsL s).length) (by omega) (show plAt (bsL s) 0 = false by simp [plAt, hcc, hwd]), Bool.false_and]
     | succ j =>
      have hj0 : ¬ ((j : Int) + 1 = 0) := by omega
      with_reducible refine aR fun K' hK => ?_
      simp [u3, u4, u5, hj0]
      refine acall_flat (indexByte80 ⟨#[45, 95, 46]⟩ c.toNat) rfl rfl ?_
      have hsep : decide (Lib.indexByte (bsL ⟨#[45, 95, 46]⟩) (c.toNat : Int).toNat.toUInt8 < 0) = !sepB c := by rw [back8]; exact sep_index c
      generalize Lib.indexByte (bsL ⟨#[45, 95, 46]⟩) (c.toNat : Int).toNat.toUInt8 = q at hsep
      cases hsp : sepB c with
      | true =>
       rw [hsp] at hsep
       have hq : ¬ q < 0 := by simpa using hsep
       simp [hq]
       refine hK _ _ _ ?_; clear K' hK
       with_reducible refine aVk (by simp) ?_
       with_reducible refine aw_skipL ?_
       refine blockK_normal ?_
       with_reducible refine aS fun K' hK => ?_
       simp [u8, hw]
       refine hK _ _ _ ?_; clear K' hK
       refine aw_skipL (loopK_normal ?_ ?_)
       ·refine ⟨by simp [u0], by simp [u7], j + 1 + 1, ?_, by omega, by rw [range_all, ht]; simp [plAt, hcc, hsp]⟩
        have : IntKind.i64.wrap ((j : Int) + 1 + 1) = (j : Int) + 1 + 1 := wrap64 (by omega) (by omega)
        simp [this]
       ·have : IntKind.i64.wrap ((j : Int) + 1 + 1) = (j : Int) + 1 + 1 := wrap64 (by omega) (by omega)
        simp [t8, u8, this]; omega
      | false =>
       rw [hsp] at hsep
       have hq : q < 0 := by simpa using hsep
       simp [hq]
       refine hK _ _ _ ?_; clear K' hK
       with_reducible refine aU (by simp) ?_
       with_reducible refine aA ?_
       with_reducible refine aR fun K' hK => ?_
       simp
       refine hK _ _ _ ?_; clear K' hK
       with_reducible refine aw_ret ?_
       simp [blockK, loopK, Post, resA, res1, expT, expA, exp1, expM, expL, okT, okA, ok1, rowOf, Tryz.f188]
       simp only [plainF, range_false (i := j + 1) (n := (bsL s).length) (by omega) (show plAt (bsL s) (j + 1) = false by simp [plAt, hcc, hwd, hsp]), Bool.false_and]
  ·skip
   with_reducible refine aw_exit ?_
   refine loopK_exit (blockK_exit ?_)
   with_reducible refine aR fun K' hK => ?_
   simp [t0]
   refine hK _ _ _ ?_; clear K' hK
   with_reducible refine aw_retL ?_
   simp [blockK, loopK, Post, resA, res1, expT, expA, exp1, expM, expL, okT, okA, ok1, rowOf, Tryz.f188]
   have : i = (bsL s).length := by omega
   rw [this] at ht
   simp [plainF, ht, empty_iff]
set_option maxRecDepth 100000
set_option maxHeartbeats 4000000
def nodeL : List UInt8 := [110, 111, 100, 101, 95, 109, 111, 100, 117, 108, 101, 115]
def goodF (l : List UInt8) : Bool := if 40 < l.length ∨ l = nodeL then false else if Lib.hasPrefix l [64] = false then plainF l else
 let c := Lib.cut (Lib.trimPrefix l [64]) [47]
 c.2.2 && (plainF c.1 && plainF c.2.1)
theorem ofL_size (l : List UInt8) : (ofL l).size = l.length := by simp [ofL, ByteArray.size]
theorem trimPrefix_le (l p : List UInt8) : (Lib.trimPrefix l p).length ≤ l.length := by
 unfold Lib.trimPrefix
 split <;> simp
theorem cut_le (l p : List UInt8) : (Lib.cut l p).1.length ≤ l.length ∧ (Lib.cut l p).2.1.length ≤ l.length := by
 unfold Lib.cut
 split
 ·simp; omega
 ·simp
theorem good52_ok (s : Bs) (hs : s.size ≤ 4000000000) : CallsOK Tryz.prog 151 [sV s] (bV (goodF (bsL s))) [] := by
 refine callsOK mixed Tryz.call151 Tryz.func151 rfl (by rw [Tryz.ntmps151]; simp) ?_ rfl
 rw [Tryz.ntmps151]
 have hl : (bsL s).length = s.size := bsL_len s
 have hn : (s = ⟨#[110, 111, 100, 101, 95, 109, 111, 100, 117, 108, 101, 115]⟩) ↔ bsL s = nodeL := ⟨fun h => by rw [h]; rfl, fun h => bsL_inj (by rw [h]; rfl)⟩
 with_reducible refine aR fun K' hK => ?_
 simp
 refine hK _ _ _ ?_; clear K' hK
 by_cases h1 : (40 : Int) < s.size
 ·with_reducible refine aA ?_
  with_reducible refine aR fun K' hK => ?_
  simp [h1]
  refine hK _ _ _ ?_; clear K' hK
  with_reducible refine aX (by simp) ?_
  with_reducible refine aA ?_
  with_reducible refine aR fun K' hK => ?_
  simp
  refine hK _ _ _ ?_; clear K' hK
  with_reducible refine aw_ret ?_
  simp [blockK, loopK, Post, resA, res1, expT, expA, exp1, expM, expL, okT, okA, ok1, rowOf, Tryz.f151]
  rw [goodF, if_pos (.inl (by omega))]
 ·by_cases h2 : s = ⟨#[110, 111, 100, 101, 95, 109, 111, 100, 117, 108, 101, 115]⟩
  ·with_reducible refine aA ?_
   with_reducible refine aR fun K' hK => ?_
   simp [h1, h2]
   refine hK _ _ _ ?_; clear K' hK
   with_reducible refine aX (by simp) ?_
   with_reducible refine aA ?_
   with_reducible refine aR fun K' hK => ?_
   simp
   refine hK _ _ _ ?_; clear K' hK
   with_reducible refine aw_ret ?_
   simp [blockK, loopK, Post, resA, res1, expT, expA, exp1, expM, expL, okT, okA, ok1, rowOf, Tryz.f151]
   rw [goodF, if_pos (.inr (hn.1 h2))]
  ·have hg : goodF (bsL s) = if Lib.hasPrefix (bsL s) [64] = false then plainF (bsL s) else (Lib.cut (Lib.trimPrefix (bsL s) [64]) [47]).2.2 && (plainF (Lib.cut (Lib.trimPrefix (bsL s) [64]) [47]).1 && plainF (Lib.cut (Lib.trimPrefix (bsL s) [64]) [47]).2.1) := by
    rw [goodF, if_neg (by
     rintro (h | h)
     ·omega
     ·exact h2 (hn.2 h))]
   rw [hg]
   with_reducible refine aA ?_
   with_reducible refine aR fun K' hK => ?_
   simp [h1, h2]
   refine hK _ _ _ ?_; clear K' hK
   with_reducible refine aYk (by simp) ?_
   with_reducible refine aR fun K' hK => ?_
   simp
   refine acall_flat (cutPrefix67 s ⟨#[64]⟩) rfl rfl ?_
   simp
   refine hK _ _ _ ?_; clear K' hK
   cases hp : Lib.hasPrefix (bsL s) [64] with
   | false =>
    have hp' : Lib.hasPrefix (bsL s) (bsL ⟨#[64]⟩) = false := hp
    with_reducible refine aA ?_
    with_reducible refine aR fun K' hK => ?_
    simp [hp']
    refine hK _ _ _ ?_; clear K' hK
    with_reducible refine aX (by simp) ?_
    with_reducible refine aA ?_
    with_reducible refine aR fun K' hK => ?_
    simp
    refine acall_flat (plain68_ok s (by omega)) rfl (by simp) ?_
    simp
    refine hK _ _ _ ?_; clear K' hK
    with_reducible refine aw_ret ?_
    simp [blockK, loopK, Post, resA, res1, expT, expA, exp1, expM, expL, okT, okA, ok1, rowOf, Tryz.f151]
   | true =>
    have hp' : Lib.hasPrefix (bsL s) (bsL ⟨#[64]⟩) = true := hp
    have e1 : Lib.trimPrefix (bsL s) (bsL ⟨#[64]⟩) = Lib.trimPrefix (bsL s) [64] := rfl
    have hlt := trimPrefix_le (bsL s) [64]
    generalize Lib.trimPrefix (bsL s) [64] = r at *
    with_reducible refine aA ?_
    with_reducible refine aR fun K' hK => ?_
    simp [hp', e1]
    refine hK _ _ _ ?_; clear K' hK
    with_reducible refine aYk (by simp) ?_
    with_reducible refine aR fun K' hK => ?_
    simp
    refine acall_flat (cut69 (ofL r) ⟨#[47]⟩ (by rw [ofL_size]; omega)) rfl (by simp) ?_
    simp
    refine hK _ _ _ ?_; clear K' hK
    have e2 : bsL ⟨#[47]⟩ = [47] := rfl
    have hcl := cut_le r [47]
    rw [e2]
    generalize Lib.cut r [47] = q at *
    obtain ⟨q1, q2, q3⟩ := q
    cases q3 with
    | false =>
     with_reducible refine aR fun K' hK => ?_
     simp
     refine hK _ _ _ ?_; clear K' hK
     with_reducible refine aw_retL ?_
     simp [blockK, loopK, Post, resA, res1, expT, expA, exp1, expM, expL, okT, okA, ok1, rowOf, Tryz.f151]
    | true =>
     with_reducible refine aR fun K' hK => ?_
     simp
     refine acall_flat (plain68_ok (ofL q1) (by rw [ofL_size]; simp only at hcl; omega)) rfl (by simp) ?_
     cases hp1 : plainF q1 with
     | false =>
      simp [hp1]
      refine hK _ _ _ ?_; clear K' hK
      with_reducible refine aw_retL ?_
      simp [blockK, loopK, Post, resA, res1, expT, expA, exp1, expM, expL, okT, okA, ok1, rowOf, Tryz.f151, hp1]
     | true =>
      simp [hp1]
      refine acall_flat (plain68_ok (ofL q2) (by rw [ofL_size]; simp only at hcl; omega)) rfl (by simp) ?_
      cases hp2 : plainF q2 <;> simp [hp2]
      ·refine hK _ _ _ ?_; clear K' hK
       with_reducible refine aw_retL ?_
       simp [blockK, loopK, Post, resA, res1, expT, expA, exp1, expM, expL, okT, okA, ok1, rowOf, Tryz.f151, hp1, hp2]
      ·refine hK _ _ _ ?_; clear K' hK
       with_reducible refine aw_retL ?_
       simp [blockK, loopK, Post, resA, res1, expT, expA, exp1, expM, expL, okT, okA, ok1, rowOf, Tryz.f151, hp1, hp2]
def numP (l : List UInt8) : Bool := !decide (l = []) && decide (Lib.trimS l digs = [])
def numOk (l : List UInt8) : Bool := numP l && (decide (l.length ≤ 6) && (!decide (by8 l 0 = 48) || decide (l = [48])))
theorem number87_ok (s : Bs) (hs : s.size ≤ 4000000000) : CallsOK Tryz.prog 232 [sV s] (.tup [iV (atoiN (bsL s)), bV (numP (bsL s)), bV (numOk (bsL s))]) [] := by
 refine callsOK mixed Tryz.call232 Tryz.func232 rfl (by rw [Tryz.ntmps232]; simp) ?_ rfl
 rw [Tryz.ntmps232]
 have hl : (bsL s).length = s.size := bsL_len s
 have h0 : (s = ⟨#[48]⟩) ↔ bsL s = [48] := ⟨fun h => by rw [h]; rfl, fun h => bsL_inj (by rw [h]; rfl)⟩
 with_reducible refine aR fun K' hK => ?_
 simp
 refine hK _ _ _ ?_; clear K' hK
 refine aw_cut (fun t G nx => t 0 = sV s ∧ t 3 = bV (numP (bsL s))) ?_ ?_
 ·by_cases he : s = ⟨#[]⟩
  ·have : numP (bsL s) = false := by simp [numP, (empty_iff s).1 he]
   with_reducible refine aS fun K' hK => ?_
   simp [he]
   refine hK _ _ _ ?_; clear K' hK
   with_reducible refine aw_end ?_
   simp [he]
   rw [he] at this; exact this
  ·have hne : ¬ bsL s = [] := fun h => he ((empty_iff s).2 h)
   with_reducible refine aS fun K' hK => ?_
   simp [he]
   refine acall_flat (trim96 s (by omega)) rfl rfl ?_
   simp
   refine hK _ _ _ ?_; clear K' hK
   with_reducible refine aw_end ?_
   have e1 : (ofL (Lib.trimS (bsL s) digs) = ⟨#[]⟩) ↔ Lib.trimS (bsL s) digs = [] := by rw [empty_iff, bsL_ofL]
   simp [numP, hne, e1]
 ·rintro t G nx ⟨t0, t3⟩
  refine aw_cut (fun t G nx => t 0 = sV s ∧ t 3 = bV (numP (bsL s)) ∧ t 4 = bV (numOk (bsL s))) ?_ ?_
  ·cases hp : numP (bsL s) with
   | false =>
    rw [hp] at t3
    with_reducible refine aS fun K' hK => ?_
    simp [t0, t3]
    refine hK _ _ _ ?_; clear K' hK
    with_reducible refine aw_end ?_
    simp [t0, t3, numOk, hp]
   | true =>
    rw [hp] at t3
    have hne : ¬ bsL s = [] := fun h => by simp [numP, h] at hp
    have hpos : (0 : Int) < s.size := by
     have : 0 < (bsL s).length := List.length_pos_iff.2 hne
     omega
    have hposN : 0 < s.size := by omega
    by_cases h6 : (s.size : Int) ≤ 6
    ·have h6' : (bsL s).length ≤ 6 := by omega
     generalize hc : byteA s 0 = c
     have hcc : by8 (bsL s) 0 = c := hc
     by_cases hz : c = 48
     ·have hz' : ((c.toNat : Int) = 48) := by rw [hz]; rfl
      by_cases h48 : s = ⟨#[48]⟩
      ·subst h48
       with_reducible refine aS fun K' hK => ?_
       simp [t0, t3]
       refine hK _ _ _ ?_; clear K' hK
       with_reducible refine aw_end ?_
       simp [t0, t3, numOk, hp]
       rfl
      ·have h48' : ¬ bsL s = [48] := fun h => h48 (h0.2 h)
       with_reducible refine aS fun K' hK => ?_
       simp [t0, t3, h6, hpos, hposN, hc, hz', h48, sV]
       refine hK _ _ _ ?_; clear K' hK
       with_reducible refine aw_end ?_
       simp [t0, t3, numOk, hp, h6', hcc, hz, h48']
     ·have hz' : ¬ ((c.toNat : Int) = 48) := fun h => hz (by
       have : c.toNat = 48 := by omega
       exact UInt8.toNat_inj.1 this)
      with_reducible refine aS fun K' hK => ?_
      simp [t0, t3, h6, hpos, hposN, hc, hz', sV]
      refine hK _ _ _ ?_; clear K' hK
      with_reducible refine aw_end ?_
      simp [t0, t3, numOk, hp, h6', hcc, hz]
    ·have h6' : ¬ (bsL s).length ≤ 6 := by omega
     with_reducible refine aS fun K' hK => ?_
     simp [t0, t3, h6]
     refine hK _ _ _ ?_; clear K' hK
     with_reducible refine aw_end ?_
     simp [t0, t3, numOk, hp, h6']
     done
  ·clear t0 t3
   rintro t G nx ⟨t0, t3, t4⟩
   with_reducible refine aR fun K' hK => ?_
   simp [t0]
   refine acall_flat (atoi97 s (by omega)) rfl (by simp) ?_
   simp
   refine hK _ _ _ ?_; clear K' hK
   with_reducible refine aR fun K' hK => ?_
   simp [t3, t4]
   refine hK _ _ _ ?_; clear K' hK
   with_reducible refine aw_retL ?_
   simp [blockK, loopK, Post, resA, res1, expT, expA, exp1, expM, expL, okT, okA, ok1, rowOf, Tryz.f232]
set_option maxRecDepth 100000
set_option maxHeartbeats 4000000
def lowI (c : UInt8) : Int := bits .or .u8 (c.toNat : Int) 32
def lowB (c : UInt8) : Bool := decide ((97 : Int) ≤ lowI c) && decide (lowI c ≤ 122)
def partB (c : UInt8) : Bool := lowB c || (decide ((48 : Int) ≤ (c.toNat : Int)) && decide ((c.toNat : Int) ≤ 57)) || decide ((c.toNat : Int) = 45)
def partF (l : List UInt8) : Bool := (List.range l.length).all (fun i => partB (by8 l i)) && (!decide (l = []) && (decide (l.length ≤ 10) && (numP l == numOk l)))
@[simp] theorem or32 (c : UInt8) : bits .or .u8 (c.toNat : Int) 32 = lowI c := rfl
theorem part76_ok (s : Bs) (hs : s.size ≤ 4000000000) : CallsOK Tryz.prog 207 [sV s] (bV (partF (bsL s))) [] := by
 refine callsOK mixed Tryz.call207 Tryz.func207 rfl (by rw [Tryz.ntmps207]; simp) ?_ rfl
 rw [Tryz.ntmps207]
 have hl : (bsL s).length = s.size := bsL_len s
 with_reducible refine aR fun K' hK => ?_
 simp
 refine hK _ _ _ ?_; clear K' hK
 with_reducible refine aA ?_
 with_reducible refine aR fun K' hK => ?_
 simp
 refine hK _ _ _ ?_; clear K' hK
 with_reducible refine aw_block ?_
 refine aw_loop (fun t G nx => t 0 = sV s ∧ t 10 = iV s.size ∧ ∃ i : Nat, t 11 = iV i ∧ i ≤ s.size ∧ (List.range i).all (fun i => partB (by8 (bsL s) i)) = true) (fun s' _ _ => match s' 11 with | .v (.int _ n) => s.size - n.toNat | _ => 0) ?_ ?_
 ·exact ⟨by simp, by simp, 0, by simp, by omega, by simp⟩
 ·rintro t G nx - ⟨t0, t10, i, t11, hi, ht⟩
  have hw : IntKind.i64.wrap (↑i + 1) = ((i + 1 : Nat) : Int) := wrapS (by omega)
  with_reducible refine aR fun K' hK => ?_
  simp [t10, t11]
  refine hK _ _ _ ?_; clear K' hK
  with_reducible refine aC fun A B hA hB => ?_
  simp
  refine ⟨fun hi2 => hA ?_, fun hi2 => hB ?_⟩ <;> clear hA hB A B <;> (try simp at hi2) <;> (try with_reducible refine aK ?_)
  ·skip
   with_reducible refine aw_block ?_
   with_reducible refine aR fun K' hK => ?_
   simp [t11]
   refine hK _ _ _ ?_; clear K' hK
   with_reducible refine aR fun K' hK => ?_
   simp [t0, t11, hi2]
   refine hK _ _ _ ?_; clear K' hK
   generalize hc : byteA s i = c
   have hcc : by8 (bsL s) i = c := hc
   refine aw_cut (fun t' G' nx' => t' 0 = sV s ∧ t' 3 = iV i ∧ t' 4 = .v (.int .u8 c.toNat) ∧ t' 5 = bV (lowB c) ∧ t' 10 = iV s.size ∧ t' 11 = iV i) ?_ ?_
   ·by_cases a1 : (97 : Int) ≤ lowI c
    ·skip
     with_reducible refine aS fun K' hK => ?_
     simp [a1]
     refine hK _ _ _ ?_; clear K' hK
     with_reducible refine aw_end ?_
     simp [t0, t10, t11, lowB, a1]
    ·skip
     with_reducible refine aS fun K' hK => ?_
     simp [a1]
     refine hK _ _ _ ?_; clear K' hK
     with_reducible refine aw_end ?_
     simp [t0, t10, t11, lowB, a1]
   ·rintro u G' nx' ⟨u0, u3, u4, u5, u10, u11⟩
    cases hw1 : lowB c with
    | true =>
     rw [hw1] at u5
     with_reducible refine aR fun K' hK => ?_
     simp [u4, u5]
     refine hK _ _ _ ?_; clear K' hK
     with_reducible refine aVk (by simp) ?_
     with_reducible refine aw_skipL ?_
     refine blockK_normal ?_
     with_reducible refine aS fun K' hK => ?_
     simp [u11, hw]
     refine hK _ _ _ ?_; clear K' hK
     refine aw_skipL (loopK_normal ?_ ?_)
     ·exact ⟨by simp [u0], by simp [u10], i + 1, by simp [hw], by omega, by rw [range_all, ht]; simp [hcc, partB, hw1]⟩
     ·simp [t11, u11, hw]; omega
    | false =>
     rw [hw1] at u5
     by_cases b1 : (c.toNat : Int) < 48
     ·by_cases b2 : (c.toNat : Int) = 45
      ·skip
       with_reducible refine aR fun K' hK => ?_
       simp [u4, u5, b1, b2]
       refine hK _ _ _ ?_; clear K' hK
       with_reducible refine aVk (by simp) ?_
       with_reducible refine aw_skipL ?_
       refine blockK_normal ?_
       with_reducible refine aS fun K' hK => ?_
       simp [u11, hw]
       refine hK _ _ _ ?_; clear K' hK
       refine aw_skipL (loopK_normal ?_ ?_)
       ·exact ⟨by simp [u0], by simp [u10], i + 1, by simp [hw], by omega, by rw [range_all, ht]; simp [hcc, partB, b2]⟩
       ·simp [t11, u11, hw]; omega
      ·skip
       with_reducible refine aR fun K' hK => ?_
       simp [u4, u5, b1, b2]
       refine hK _ _ _ ?_; clear K' hK
       with_reducible refine aU (by simp) ?_
       with_reducible refine aA ?_
       with_reducible refine aR fun K' hK => ?_
       simp
       refine hK _ _ _ ?_; clear K' hK
       with_reducible refine aw_ret ?_
       simp [blockK, loopK, Post, resA, res1, expT, expA, exp1, expM, expL, okT, okA, ok1, rowOf, Tryz.f207]
       have : partB c = false := by simp [partB, hw1, b2]; omega
       simp only [partF, range_false (p := fun i => partB (by8 (bsL s) i)) (i := i) (n := (bsL s).length) (by omega) (show partB (by8 (bsL s) i) = false by rw [hcc, this]), Bool.false_and]
     ·by_cases b3 : (c.toNat : Int) ≤ 57
      ·have b4 : ¬ (57 : Int) < c.toNat := by omega
       with_reducible refine aR fun K' hK => ?_
       simp [u4, u5, b1, b4]
       refine hK _ _ _ ?_; clear K' hK
       with_reducible refine aVk (by simp) ?_
       with_reducible refine aw_skipL ?_
       refine blockK_normal ?_
       with_reducible refine aS fun K' hK => ?_
       simp [u11, hw]
       refine hK _ _ _ ?_; clear K' hK
       refine aw_skipL (loopK_normal ?_ ?_)
       ·exact ⟨by simp [u0], by simp [u10], i + 1, by simp [hw], by omega, by rw [range_all, ht]; simp [hcc, partB, hw1]; omega⟩
       ·simp [t11, u11, hw]; omega
      ·have b4 : (57 : Int) < c.toNat := by omega
       have b2 : ¬ (c.toNat : Int) = 45 := by omega
       with_reducible refine aR fun K' hK => ?_
       simp [u4, u5, b1, b4, b2]
       refine hK _ _ _ ?_; clear K' hK
       with_reducible refine aU (by simp) ?_
       with_reducible refine aA ?_
       with_reducible refine aR fun K' hK => ?_
       simp
       refine hK _ _ _ ?_; clear K' hK
       with_reducible refine aw_ret ?_
       simp [blockK, loopK, Post, resA, res1, expT, expA, exp1, expM, expL, okT, okA, ok1, rowOf, Tryz.f207]
       have : partB c = false := by simp [partB, hw1, b2]; omega
       simp only [partF, range_false (p := fun i => partB (by8 (bsL s) i)) (i := i) (n := (bsL s).length) (by omega) (show partB (by8 (bsL s) i) = false by rw [hcc, this]), Bool.false_and]
  ·skip
   with_reducible refine aw_exit ?_
   refine loopK_exit (blockK_exit ?_)
   with_reducible refine aR fun K' hK => ?_
   simp [t0]
   refine acall_flat (number87_ok s hs) rfl (by simp) ?_
   simp
   refine hK _ _ _ ?_; clear K' hK
   have : i = (bsL s).length := by omega
   rw [this] at ht
   by_cases he : s = ⟨#[]⟩
   ·have he' := (empty_iff s).1 he
    with_reducible refine aR fun K' hK => ?_
    simp [t0, he]
    refine hK _ _ _ ?_; clear K' hK
    with_reducible refine aw_retL ?_
    simp [blockK, loopK, Post, resA, res1, expT, expA, exp1, expM, expL, okT, okA, ok1, rowOf, Tryz.f207]
    simp [partF, he', ← he]
   ·have he' : ¬ bsL s = [] := fun h => he ((empty_iff s).2 h)
    by_cases h10 : (s.size : Int) ≤ 10
    ·have h10' : (bsL s).length ≤ 10 := by omega
     with_reducible refine aR fun K' hK => ?_
     simp [t0, he, h10]
     refine hK _ _ _ ?_; clear K' hK
     with_reducible refine aw_retL ?_
     simp [blockK, loopK, Post, resA, res1, expT, expA, exp1, expM, expL, okT, okA, ok1, rowOf, Tryz.f207]
     simp [partF, he', h10', ht]
    ·have h10' : ¬ (bsL s).length ≤ 10 := by omega
     with_reducible refine aR fun K' hK => ?_
     simp [t0, he, h10]
     refine hK _ _ _ ?_; clear K' hK
     with_reducible refine aw_retL ?_
     simp [blockK, loopK, Post, resA, res1, expT, expA, exp1, expM, expL, okT, okA, ok1, rowOf, Tryz.f207]
     simp [partF, he', h10']
set_option maxRecDepth 100000
set_option maxHeartbeats 4000000
def dotOk : Nat → List UInt8 → Bool
 | 0, _ => false
 | k + 1, l => if Lib.indexByte l 46 < 0 then partF l else partF (l.take (Lib.indexByte l 46).toNat) && dotOk k (l.drop ((Lib.indexByte l 46).toNat + 1))
def preOk (l : List UInt8) : Bool := decide (l = []) || dotOk 5 l
theorem right65_ok (v : Ver) (hs : v.pre.size ≤ 4000000000) : CallsOK Tryz.prog 174 [.agg v.cells] (bV (preOk (bsL v.pre) && (inR v.maj && (inR v.min && inR v.pat)))) [] := by
 refine callsOK mixed Tryz.call174 Tryz.func174 rfl (by rw [Tryz.ntmps174]; simp) ?_ rfl
 rw [Tryz.ntmps174]
 with_reducible refine aR fun K' hK => ?_
 simp
 refine hK _ _ _ ?_; clear K' hK
 with_reducible refine aA ?_
 with_reducible refine aR fun K' hK => ?_
 simp
 refine hK _ _ _ ?_; clear K' hK
 refine aw_cutR (fun t G nx => t 1 = .ptr 0 0 ∧ t 2 = .ptr 1 0 ∧ G 0 = some (.var 23 v.cells) ∧ G 1 = some (.var 4 [bV false]) ∧ preOk (bsL v.pre) = true ∧ 2 ≤ nx) ?_ ?_
 ·by_cases he : v.pre = ⟨#[]⟩
  ·skip
   with_reducible refine aVk (by simp [he]) ?_
   with_reducible refine aw_endR ?_
   simp [preOk, he]
   exact .inl rfl
  ·skip
   with_reducible refine aU (by simp [he]) ?_
   with_reducible refine aA ?_
   with_reducible refine aR fun K' hK => ?_
   simp
   refine hK _ _ _ ?_; clear K' hK
   with_reducible refine aA ?_
   with_reducible refine aR fun K' hK => ?_
   simp
   refine acall_inlK (inlK mixed Tryz.call206 Tryz.func206 rfl (by rw [Tryz.ntmps206]; simp) fun hf => ?_)
   rw [Tryz.ntmps206]
   with_reducible refine aR fun K' hK => ?_
   simp
   refine hK _ _ _ ?_; clear K' hK
   with_reducible refine aR fun K' hK => ?_
   simp
   refine acall_inlK (inlK mixed Tryz.call237 Tryz.func237 rfl (by rw [Tryz.ntmps237]; simp) fun hf => ?_)
   rw [Tryz.ntmps237]
   with_reducible refine aR fun K' hK => ?_
   simp
   refine hK _ _ _ ?_; clear K' hK
   with_reducible refine aR fun K' hK => ?_
   simp
   refine hK _ _ _ ?_; clear K' hK
   with_reducible refine aw_retL ?_
   simp [blockK, loopK, Post, resA, res1, expT, expA, exp1, expM, expL, okT, okA, ok1, rowOf, Tryz.f237]
   refine hK _ _ _ ?_; clear K' hK
   with_reducible refine aw_retL ?_
   simp [blockK, loopK, Post, resA, res1, expT, expA, exp1, expM, expL, okT, okA, ok1, rowOf, Tryz.f206]
   refine hK _ _ _ ?_; clear K' hK
   refine aw_gen (fun t G nx => t 1 = .ptr 0 0 ∧ t 2 = .ptr 1 0 ∧ t 3 = .ptr 2 0 ∧ t 10 = .fn 255 [.ptr 4 0, .ptr 3 0, .ptr 5 0] ∧ nx = 6 ∧ G 0 = some (.var 23 v.cells) ∧ G 1 = some (.var 4 [bV false]) ∧ G 2 = some (.var 3 [iV 0]) ∧ G 3 = some (.var 9 [sV v.pre]) ∧ G 4 = some (.var 9 [sV ⟨#[46]⟩]) ∧ G 5 = some (.var 3 [iV 0])) ?_ ?_
   ·simp
    done
   rintro t G nx ⟨t1, t2, t3, t10, rfl, g0, g1, g2, g3, g4, g5⟩
   with_reducible refine aw_block ?_
   refine aw_range (f := 255) (fn := Tryz.f255) mixed t10 Tryz.call255 Tryz.func255 rfl (by rw [Tryz.ntmps255]; simp) rfl ?_
   rw [Tryz.ntmps255]
   generalize hL : (Lp.mk t 29 _ _ _) = L
   have hLs : L.s = t := by subst hL; rfl
   have hne : ¬ bsL v.pre = [] := fun h => he ((empty_iff _).2 h)
   have hround : ∀ (b : Bs) (c : Nat) (K : AV → Hp → Nat → Prop) (G : Hp) (nx : Nat), b.size ≤ 4000000000 → c ≤ 5 → G 0 = some (.var 23 v.cells) → G 1 = some (.var 4 [bV false]) → G 2 = some (.var 3 [iV c]) → G 6 = some (L.o .ready none) →
     (partF (bsL b) = true → c + 1 ≤ 5 → K (bV true) (((G.upd 6 (L.o .busy none)).upd 2 (.var 3 [iV (c + 1 : Nat)])).upd 6 (L.o .ready none)) nx) →
     (partF (bsL b) = false ∨ ¬ c + 1 ≤ 5 → K (bV false) ((((G.upd 6 (L.o .busy none)).upd 2 (.var 3 [iV (c + 1 : Nat)])).upd 1 (.var 4 [bV false])).upd 6 (L.o .done (some .ret))) nx) → YldK Tryz.prog 6 [sV b] K G nx := by
    subst hL
    clear g0 g1 g2 g3 g4 g5
    intro b c K G nx hb hc g0 g1 g2 g6 k1 k2
    refine yldK mixed g6 rfl (by simp) rfl rfl fun hf => ?_
    have hw : IntKind.i64.wrap (↑c + 1) = ((c + 1 : Nat) : Int) := wrapS (by omega)
    with_reducible refine aS fun K' hK => ?_
    simp
    refine hK _ _ _ ?_; clear K' hK
    refine ⟨rfl, g6, ?_⟩
    dsimp only
    generalize (Lp.mk t 29 _ _ _) = L at g6 k1 k2 ⊢
    with_reducible refine aw_toS (aw_block ?_)
    with_reducible refine aR fun K' hK => ?_
    simp [t3, g2, hw]
    refine hK _ _ _ ?_; clear K' hK
    with_reducible refine aR fun K' hK => ?_
    simp
    refine acall_flat (part76_ok b hb) rfl (by simp) ?_
    by_cases hgo : partF (bsL b) = true ∧ c + 1 ≤ 5
    ·have h5 : ¬ (5 : Int) < (c + 1 : Nat) := by omega
     simp [hgo.1, t3, h5]
     refine hK _ _ _ ?_; clear K' hK
     (first | with_reducible refine aC fun A B hA hB => ?_ | with_reducible refine aD fun A B hA hB => ?_)
     simp
     refine ⟨fun hc => hA ?_, fun hc => hB ?_⟩ <;> clear hA hB A B <;> (try (simp at hc; done)) <;> (try (exfalso; simp at hc; omega)) <;> clear hc <;> (try with_reducible refine aK ?_)
     with_reducible refine aw_skipL ?_
     refine blockK_normal ?_
     refine aw_skipL ?_
     refine roundK_normal (by simp) ?_
     exact k1 hgo.1 hgo.2
    ·cases hp : partF (bsL b) with
     | false =>
      simp [hp, t3]
      refine hK _ _ _ ?_; clear K' hK
      with_reducible refine aU (by simp) ?_
      with_reducible refine aA ?_
      with_reducible refine aR fun K' hK => ?_
      simp [t2, g1]
      refine hK _ _ _ ?_; clear K' hK
      refine aw_ret ?_
      refine blockK_ret ?_
      refine roundK_ret (by simp) ?_
      exact k2 (.inl hp)
     | true =>
      have h5 : (5 : Int) < (c + 1 : Nat) := by simp [hp] at hgo; omega
      simp [hp, t3, h5]
      refine hK _ _ _ ?_; clear K' hK
      (first | with_reducible refine aC fun A B hA hB => ?_ | with_reducible refine aD fun A B hA hB => ?_)
      simp
      refine ⟨fun hc => hA ?_, fun hc => hB ?_⟩ <;> clear hA hB A B <;> (try (simp at hc; done)) <;> (try (exfalso; simp at hc; omega)) <;> clear hc <;> (try with_reducible refine aK ?_)
      with_reducible refine aA ?_
      with_reducible refine aR fun K' hK => ?_
      simp [t2, g1]
      refine hK _ _ _ ?_; clear K' hK
      refine aw_ret ?_
      refine blockK_ret ?_
      refine roundK_ret (by simp) ?_
      exact k2 (.inr (by omega))
   have hz1 : ByteArray.size (⟨#[46]⟩ : Bs) = 1 := rfl
   with_reducible refine aA ?_
   with_reducible refine aR fun K' hK => ?_
   simp [g4, hz1]
   refine hK _ _ _ ?_; clear K' hK
   with_reducible refine aYk (by simp) ?_
   with_reducible refine aw_block ?_
   refine aw_loop (fun t' G' nx' => 7 ≤ nx' ∧ t' 0 = .yl 6 ∧ t' 1 = .ptr 4 0 ∧ t' 2 = .ptr 3 0 ∧ t' 3 = .ptr 5 0 ∧ G' 0 = some (.var 23 v.cells) ∧ G' 1 = some (.var 4 [bV false]) ∧ G' 4 = some (.var 9 [sV ⟨#[46]⟩]) ∧ G' 5 = some (.var 3 [iV 0]) ∧ G' 6 = some (L.o .ready none) ∧ ∃ (k : Nat) (r : Bs), k ≤ 5 ∧ G' 2 = some (.var 3 [iV (5 - k : Nat)]) ∧ G' 3 = some (.var 9 [sV r]) ∧ r.size ≤ 4000000000 ∧ dotOk 5 (bsL v.pre) = dotOk k (bsL r)) (fun _ G' _ => match G' 2 with | some (.var _ [.v (.int _ n)]) => 5 - n.toNat | _ => 0) ?_ ?_
   ·refine ⟨by omega, rfl, rfl, rfl, rfl, g0, g1, g4, g5, by simp, 5, v.pre, by omega, g2, g3, hs, rfl⟩
   ·rintro t' G' nx' - ⟨hnx, u0, u1, u2, u3, h0, h1, h4, h5, h6, k, r, hk, h2, h3, hr, hd⟩
    have hl : (bsL r).length = r.size := bsL_len r
    with_reducible refine aw_toS (aw_block ?_)
    with_reducible refine aR fun K' hK => ?_
    simp [u1, u2, h3, h4]
    refine acall_flat (index95 r 46) rfl (by simp) ?_
    simp
    refine hK _ _ _ ?_; clear K' hK
    generalize hi : Lib.indexByte (bsL r) 46 = i
    with_reducible refine aA ?_
    with_reducible refine aR fun K' hK => ?_
    simp
    refine hK _ _ _ ?_; clear K' hK
    with_reducible refine aC fun A B hA hB => ?_
    simp
    refine ⟨fun hneg => hA ?_, fun hneg => hB ?_⟩ <;> clear hA hB A B <;> (try simp at hneg) <;> (try with_reducible refine aK ?_)
    ·refine aw_exit (blockK_pass (by decide) (loopK_exit (blockK_exit ?_)))
     with_reducible refine aS fun K' hK => ?_
     simp [u0, u2, h3]
     refine ⟨⟨_, _, _, _, _, _, _, h6⟩, hround r (5 - k) _ _ _ hr (by omega) h0 h1 h2 h6 (fun hp hc => ?_) (fun hn => ?_)⟩
     ·simp
      refine hK _ _ _ ?_; clear K' hK
      refine aw_skipL (rangeK_on (.inl rfl) (by simp) ?_)
      rw [hLs]
      refine blockK_normal (aw_endR ⟨t1, t2, by simp [h0], by simp [h1], ?_, by omega⟩)
      have : preOk (bsL v.pre) = dotOk 5 (bsL v.pre) := by simp [preOk, hne]
      rw [this, hd]
      cases k with
      | zero => omega
      | succ k => simp [dotOk, hi, hneg, hp]
     ·simp
      refine hK _ _ _ ?_; clear K' hK
      refine aw_skipL (rangeK_ret (.inl rfl) (by simp) ?_)
      rw [hLs]
      have : preOk (bsL v.pre) = false := by
       have : preOk (bsL v.pre) = dotOk 5 (bsL v.pre) := by simp [preOk, hne]
       rw [this, hd]
       cases k with
       | zero => rfl
       | succ k =>
        have : partF (bsL r) = false := hn.resolve_right (by omega)
        simp [dotOk, hi, hneg, this]
      refine blockK_ret ?_
      simp [cutK, Post, resA, res1, expT, expA, exp1, expM, expL, okT, okA, ok1, rowOf, Tryz.f174, this, t2]
    ·obtain ⟨n, rfl⟩ : ∃ n : Nat, i = n := ⟨i.toNat, by omega⟩
     have hn : n < r.size := by
      have := (Lib.indexByte_some hi).1
      have := (List.getElem?_eq_some_iff.1 this).1
      omega
     have hw0 : IntKind.i64.wrap (n : Int) = n := wrap64 (by omega) (by omega)
     with_reducible refine aR fun K' hK => ?_
     simp [u2, u3, h3, h5, bnd_some, hw0, Nat.le_of_lt hn]
     refine hK _ _ _ ?_; clear K' hK
     with_reducible refine aA ?_
     with_reducible refine aR fun K' hK => ?_
     simp [u0]
     have hsz : (r.extract 0 n).size ≤ 4000000000 := by simp; omega
     have hle : bsL (r.extract 0 n) = (bsL r).take n := by simp [bsL]
     have hle2 : bsL (r.extract (n + 1) r.size) = (bsL r).drop (n + 1) := by
      have : r.data.toList.length = r.size := hl
      simp [bsL]
      rw [List.take_of_length_le (by simp [this])]
     have hdk : ∀ j, dotOk (j + 1) (bsL r) = (partF ((bsL r).take n) && dotOk j ((bsL r).drop (n + 1))) := fun j => by
      rw [dotOk, hi, if_neg (by omega : ¬ (n : Int) < 0)]; simp
     refine ⟨⟨_, _, _, _, _, _, _, h6⟩, hround (r.extract 0 n) (5 - k) _ _ _ hsz (by omega) h0 h1 h2 h6 (fun hp hc => ?_) (fun hn => ?_)⟩
     ·simp
      refine hK _ _ _ ?_; clear K' hK
      with_reducible refine aYk (by simp) ?_
      have hw1 : IntKind.i64.wrap ((n : Int) + 1) = ((n + 1 : Nat) : Int) := wrapS (by omega)
      have hp1 : (0 : Int) ≤ (n : Int) + 1 := by omega
      have hp2 : n + 1 ≤ r.size := by omega
      with_reducible refine aS fun K' hK => ?_
      simp [u1, u2, h3, h4, hz1, hw1, bnd_some, hp1, hp2]
      refine hK _ _ _ ?_; clear K' hK
      with_reducible refine aw_skipL ?_
      refine blockK_normal ?_
      refine aw_skipL (loopK_normal ?_ ?_)
      ·cases k with
       | zero => omega
       | succ k =>
        refine ⟨hnx, by simp [u0], by simp [u1], by simp [u2], by simp [u3], by simp [h0], by simp [h1], by simp [h4], by simp [h5], by simp, k, r.extract (n + 1) r.size, by omega, ?_, by simp, by simp; omega, ?_⟩
        ·have : (5 - k : Nat) = (5 - (k + 1)) + 1 := by omega
         simp [this]
        ·rw [hle] at hp
         rw [hd, hdk, hp, hle2]; rfl
      ·simp [h2]; omega
     ·simp
      refine hK _ _ _ ?_; clear K' hK
      with_reducible refine aX (by simp) ?_
      refine aw_ret (blockK_ret (loopK_ret (blockK_ret ?_)))
      refine rangeK_ret (.inr rfl) (by simp) ?_
      rw [hLs]
      have : preOk (bsL v.pre) = false := by
       have : preOk (bsL v.pre) = dotOk 5 (bsL v.pre) := by simp [preOk, hne]
       rw [this, hd]
       cases k with
       | zero => rfl
       | succ k =>
        have := hn.resolve_right (by omega)
        rw [hle] at this
        rw [hdk, this]; rfl
      refine blockK_ret ?_
      simp [cutK, Post, resA, res1, expT, expA, exp1, expM, expL, okT, okA, ok1, rowOf, Tryz.f174, this, t2]
 ·rintro t G nx ⟨t1, t2, g0, g1, hp, hnx⟩
  have hn1 : ¬ 1 = nx := by omega
  with_reducible refine aR fun K' hK => ?_
  simp [t1, t2, g0]
  refine acall_flat (within77_ok [v.maj, v.min, v.pat] (by simp)) rfl (by simp [treeOf_row]; rfl) ?_
  simp [t2, g1, hn1]
  refine hK _ _ _ ?_; clear K' hK
  with_reducible refine aw_retL ?_
  simp [blockK, loopK, Post, resA, res1, expT, expA, exp1, expM, expL, okT, okA, ok1, rowOf, Tryz.f174, t2]
  simp [hp]
set_option maxRecDepth 100000
set_option maxHeartbeats 4000000
def Fits (a b : Bs) : Prop := a.size + b.size ≤ 9223372036854775807
instance (a b : Bs) : Decidable (Fits a b) := inferInstanceAs (Decidable (a.size + b.size ≤ 9223372036854775807))
@[simp] theorem str_add (P : Program) (t : TypeId) (a b : Bs) : evBin P .add t (.string a) (.string b) = if Fits a b then some (.string (a ++ b)) else none := rfl
theorem app_size (a b : Bs) : (a ++ b).size = a.size + b.size := ByteArray.size_append
def verOk (v : Ver) : Bool := preOk (bsL v.pre) && (inR v.maj && (inR v.min && inR v.pat))
def prCore (v : Ver) : Bs := ofL (Lib.itoa v.maj) ++ ⟨#[46]⟩ ++ ofL (Lib.itoa v.min) ++ ⟨#[46]⟩ ++ ofL (Lib.itoa v.pat)
def prV (v : Ver) : Bs := if verOk v then (if v.pre = ⟨#[]⟩ then prCore v else prCore v ++ (⟨#[45]⟩ ++ v.pre)) else ⟨#[]⟩
theorem inR_int {n : Int} (h : inR n = true) : 0 ≤ n ∧ n ≤ 999999 := by
 simpa [inR] using h
theorem verOk_int {v : Ver} (h : verOk v = true) : (0 ≤ v.maj ∧ v.maj ≤ 999999) ∧ (0 ≤ v.min ∧ v.min ≤ 999999) ∧ (0 ≤ v.pat ∧ v.pat ≤ 999999) := by
 simp [verOk] at h
 exact ⟨inR_int h.2.1, inR_int h.2.2.1, inR_int h.2.2.2⟩
theorem print51_ok (v : Ver) (hs : v.pre.size ≤ 4000000000) : CallsOK Tryz.prog 137 [.agg v.cells] (.tup [sV (prV v), bV (verOk v)]) [] := by
 refine callsOK mixed Tryz.call137 Tryz.func137 rfl (by rw [Tryz.ntmps137]; simp) ?_ rfl
 rw [Tryz.ntmps137]
 with_reducible refine aR fun K' hK => ?_
 simp
 refine hK _ _ _ ?_; clear K' hK
 with_reducible refine aA ?_
 with_reducible refine aR fun K' hK => ?_
 simp
 refine acall_flat (right65_ok v hs) rfl (by simp) ?_
 show _
 cases hv : verOk v with
 | false =>
  have hv' := hv
  rw [verOk] at hv'
  simp [hv']
  refine hK _ _ _ ?_; clear K' hK
  with_reducible refine aX (by simp) ?_
  with_reducible refine aA ?_
  with_reducible refine aR fun K' hK => ?_
  simp
  refine hK _ _ _ ?_; clear K' hK
  with_reducible refine aw_ret ?_
  simp [blockK, loopK, Post, resA, res1, expT, expA, exp1, expM, expL, okT, okA, ok1, rowOf, Tryz.f137]
  simp [prV, hv]
  done
 | true =>
  have hv' := hv
  rw [verOk] at hv'
  obtain ⟨i1, i2, i3⟩ := verOk_int hv
  have hpc : prV v = if v.pre = ⟨#[]⟩ then prCore v else prCore v ++ (⟨#[45]⟩ ++ v.pre) := by rw [prV, hv]; rfl
  have q1 := itoa66 v.maj (by omega) (by omega)
  have q2 := itoa66 v.min (by omega) (by omega)
  have q3 := itoa66 v.pat (by omega) (by omega)
  have s1 : (ofL (Lib.itoa v.maj)).size ≤ 21 := by rw [ofL_size]; exact Lib.itoa_length_le _ (by omega) (by omega)
  have s2 : (ofL (Lib.itoa v.min)).size ≤ 21 := by rw [ofL_size]; exact Lib.itoa_length_le _ (by omega) (by omega)
  have s3 : (ofL (Lib.itoa v.pat)).size ≤ 21 := by rw [ofL_size]; exact Lib.itoa_length_le _ (by omega) (by omega)
  have hc : prCore v = ofL (Lib.itoa v.maj) ++ ⟨#[46]⟩ ++ ofL (Lib.itoa v.min) ++ ⟨#[46]⟩ ++ ofL (Lib.itoa v.pat) := rfl
  rw [hc] at hpc
  clear hc
  generalize ofL (Lib.itoa v.maj) = a at q1 s1 hpc
  generalize ofL (Lib.itoa v.min) = b at q2 s2 hpc
  generalize ofL (Lib.itoa v.pat) = c at q3 s3 hpc
  have d1 : ByteArray.size (⟨#[46]⟩ : Bs) = 1 := rfl
  have d2 : ByteArray.size (⟨#[45]⟩ : Bs) = 1 := rfl
  have f1 : Fits a ⟨#[46]⟩ := by unfold Fits; omega
  have f2 : Fits (a ++ ⟨#[46]⟩) b := by unfold Fits; simp only [app_size]; omega
  have f3 : Fits (a ++ ⟨#[46]⟩ ++ b) ⟨#[46]⟩ := by unfold Fits; simp only [app_size]; omega
  have f4 : Fits (a ++ ⟨#[46]⟩ ++ b ++ ⟨#[46]⟩) c := by unfold Fits; simp only [app_size]; omega
  have f5 : Fits ⟨#[45]⟩ v.pre := by unfold Fits; omega
  have f6 : Fits (a ++ ⟨#[46]⟩ ++ b ++ ⟨#[46]⟩ ++ c) (⟨#[45]⟩ ++ v.pre) := by unfold Fits; simp only [app_size]; omega
  simp only [hv']
  simp
  refine hK _ _ _ ?_; clear K' hK
  with_reducible refine aYk (by simp) ?_
  with_reducible refine aQ fun K' hK => ?_
  simp
  refine acall_flat q1 rfl (by simp) ?_
  simp [f1]
  refine acall_flat q2 rfl (by simp) ?_
  simp [f2, f3]
  refine acall_flat q3 rfl (by simp) ?_
  simp [f4]
  refine hK _ _ _ ?_; clear K' hK
  by_cases he : v.pre = ⟨#[]⟩
  ·with_reducible refine aA ?_
   with_reducible refine aR fun K' hK => ?_
   simp [he]
   refine hK _ _ _ ?_; clear K' hK
   with_reducible refine aYk (by simp) ?_
   with_reducible refine aR fun K' hK => ?_
   simp
   refine hK _ _ _ ?_; clear K' hK
   with_reducible refine aw_retL ?_
   simp [blockK, loopK, Post, resA, res1, expT, expA, exp1, expM, expL, okT, okA, ok1, rowOf, Tryz.f137]
   rw [hpc, if_pos he]
   exact ⟨rfl, hv⟩
  ·with_reducible refine aA ?_
   with_reducible refine aR fun K' hK => ?_
   simp [he]
   refine hK _ _ _ ?_; clear K' hK
   with_reducible refine aX (by simp) ?_
   with_reducible refine aR fun K' hK => ?_
   simp [f5, f6]
   refine hK _ _ _ ?_; clear K' hK
   with_reducible refine aR fun K' hK => ?_
   simp
   refine hK _ _ _ ?_; clear K' hK
   with_reducible refine aw_retL ?_
   simp [blockK, loopK, Post, resA, res1, expT, expA, exp1, expM, expL, okT, okA, ok1, rowOf, Tryz.f137]
   rw [hpc, if_neg he]
   exact ⟨rfl, hv⟩
def rightF (name : Bs) (v : Ver) : Bool := verOk v && goodF (bsL name)
theorem right32_ok (name : Bs) (v : Ver) (h1 : name.size ≤ 4000000000) (hs : v.pre.size ≤ 4000000000) : CallsOK Tryz.prog 97 [sV name, .agg v.cells] (bV (rightF name v)) [] := by
 refine callsOK mixed Tryz.call97 Tryz.func97 rfl (by rw [Tryz.ntmps97]; simp) ?_ rfl
 rw [Tryz.ntmps97]
 with_reducible refine aR fun K' hK => ?_
 simp
 refine hK _ _ _ ?_; clear K' hK
 with_reducible refine aR fun K' hK => ?_
 simp
 refine acall_flat (print51_ok v hs) rfl (by simp) ?_
 simp
 refine hK _ _ _ ?_; clear K' hK
 cases hv : verOk v with
 | false =>
  with_reducible refine aR fun K' hK => ?_
  simp [hv]
  refine hK _ _ _ ?_; clear K' hK
  with_reducible refine aw_retL ?_
  simp [blockK, loopK, Post, resA, res1, expT, expA, exp1, expM, expL, okT, okA, ok1, rowOf, Tryz.f97]
  simp [rightF, hv]
 | true =>
  with_reducible refine aR fun K' hK => ?_
  simp [hv]
  refine acall_flat (good52_ok name h1) rfl (by simp) ?_
  simp
  refine hK _ _ _ ?_; clear K' hK
  with_reducible refine aw_retL ?_
  simp [blockK, loopK, Post, resA, res1, expT, expA, exp1, expM, expL, okT, okA, ok1, rowOf, Tryz.f97]
  simp [rightF, hv]
set_option maxRecDepth 100000
set_option maxHeartbeats 4000000
structure Key where
 par : Int
 name : Bs
 deriving DecidableEq, Inhabited
def kV (k : Key) : Value := .agg #[.int .i64 k.par, .string k.name]
def kC (k : Key) : List AV := [iV k.par, sV k.name]
@[simp] theorem kC_conc (k : Key) : conc (.agg (kC k)) = some (kV k) := rfl
@[simp] theorem kC_one (k : Key) : (kC k).all AV.one = true := rfl
@[simp] theorem kC_all (k : Key) : getC (kC k) 0 2 = some (kC k) := rfl
@[simp] theorem kC_len (k : Key) : (kC k).length = 2 := rfl
@[simp] theorem kC_trees {P : Program} {G : Hp} (k : Key) : treesOf P G (kC k) = some (kC k, G) := rfl
def entK (S : List Key) : List (Value × AV) := S.map fun k => (kV k, bV true)
noncomputable def fs62 : Array Field := match Tryz.prog.underlying 113 with
 | some (.struct fs) => fs
 | _ => #[]
@[simp] theorem mapI60 : mapI Tryz.prog 111 = some (113, .struct fs62, 4) := by kernel_rfl
@[simp] theorem zv4 : zvI Tryz.prog 4 = some (bV false) := by kernel_rfl
@[simp] theorem keyOK62 (k : Key) : keyOK Tryz.prog (.struct fs62) (kV k) = true := by kernel_rfl
theorem eqV62 (a b : Key) : eqV Tryz.prog 20 113 (kV a) (kV b) = some ((a.par == b.par) && ((a.name.toList == b.name.toList) && true)) := by kernel_rfl
theorem sameK62 (a b : Key) : sameK Tryz.prog 113 (.struct fs62) (kV a) (kV b) = some (decide (a = b)) := by
 show eqV Tryz.prog 20 113 (kV a) (kV b) = _
 rw [eqV62, beq_toList]
 congr 1
 rw [Bool.eq_iff_iff]; cases a; cases b; simp
theorem findK (k : Key) : ∀ (S : List Key) (i : Nat), ∃ r, findI Tryz.prog 113 (.struct fs62) (kV k) (entK S) i = some r ∧ (k ∈ S → ∃ j, r = some (i + j) ∧ j < S.length) ∧ (k ∉ S → r = none)
 | [], i => ⟨none, rfl, by simp, by simp⟩
 | a :: S, i => by
  simp only [entK, List.map_cons, findI, sameK62]
  by_cases h : k = a
  ·subst h
   exact ⟨some i, by simp, fun _ => ⟨0, rfl, by simp⟩, fun h => absurd (List.mem_cons_self ..) h⟩
  ·obtain ⟨r, h1, h2, h3⟩ := findK k S (i + 1)
   refine ⟨r, by simpa [h, entK] using h1, fun hm => ?_, fun hm => h3 (fun h => hm (List.mem_cons_of_mem _ h))⟩
   obtain ⟨j, hj, hl⟩ := h2 (by simpa [h] using hm)
   exact ⟨j + 1, by rw [hj]; congr 1; omega, by simp; omega⟩
theorem lookupK {G : Hp} {id : Nat} {S : List Key} (hG : G id = some (.map (entK S))) (k : Key) : evLookup Tryz.prog G 111 (.mp id) (.agg (kC k)) false = some (bV (decide (k ∈ S))) := by
 obtain ⟨r, h1, h2, h3⟩ := findK k S 0
 simp only [evLookup, mapI60, kC_conc, hG, zv4, keyOK62, if_true, h1]
 by_cases hm : k ∈ S
 ·obtain ⟨j, rfl, hl⟩ := h2 hm
  have : (entK S)[j]? = some (kV S[j], bV true) := by simp [entK, hl]
  simp [this, hm]
 ·rw [h3 hm]
  simp [hm]
theorem updateK {G : Hp} {id : Nat} {S : List Key} (hG : G id = some (.map (entK S))) {k : Key} (hm : k ∉ S) : evMapUpdate Tryz.prog G 111 (.mp id) (.agg (kC k)) (bV true) = some (G.upd id (.map (entK (S ++ [k])))) := by
 obtain ⟨r, h1, h2, h3⟩ := findK k S 0
 simp only [evMapUpdate, mapI60, kC_conc, hG, keyOK62, if_true, h1, h3 hm]
 simp [entK]
@[simp] theorem elI48 : elI Tryz.prog 49 = some (3, 1, 8, [.int .i64 0]) := by kernel_rfl
theorem flat_iC (l : List Int) : flat iC l = l.map fun n => iV n := by
 induction l with
 | nil => rfl
 | cons a l ih => rw [List.map_cons, ← ih]; rfl
theorem made_iC (n : Nat) : madeA [.int .i64 0] (n * 1) = flat iC (List.replicate n 0) := by
 rw [flat_iC]
 simp [madeA, madeCells, Nat.mod_one, Function.comp_def, List.map_const, List.map_const']
 done
def rootP : Pl := ⟨-1, ⟨#[]⟩, ⟨0, 0, 0, ⟨#[]⟩⟩⟩
theorem rootC : conc (.agg [iV (-1), sV ⟨#[]⟩, iV 0, iV 0, iV 0, sV ⟨#[]⟩]) = some rootP.val := rfl
def keyP (p : Pl) : Key := ⟨p.par, p.name⟩
def dD (t : List Pl) : Nat → List Int
 | 0 => List.replicate t.length 0
 | i + 1 => (dD t i).set (i + 1) (nth (dD t i) (nth t.tail i).par.toNat + 1)
theorem dD_len (t : List Pl) : ∀ i, (dD t i).length = t.length
 | 0 => by simp [dD]
 | i + 1 => by simp [dD, dD_len t i]
def keysTo (t : List Pl) (i : Nat) : List Key := (t.tail.take i).map keyP
theorem keys_zero (t : List Pl) : keysTo t 0 = [] := rfl
theorem keys_succ {t : List Pl} {i : Nat} (h : i < t.tail.length) : keysTo t (i + 1) = keysTo t i ++ [keyP (nth t.tail i)] := by
 unfold keysTo
 rw [List.take_add_one, List.getElem?_eq_getElem h, List.map_append, ← nth_eq h]; rfl
def okAt (t : List Pl) (i : Nat) : Bool :=
 let p := nth t.tail i
 decide (0 ≤ p.par) && (decide (p.par ≤ i) && (rightF p.name p.ver && (decide (keyP p ∉ keysTo t i) && decide (nth (dD t i) p.par.toNat + 1 ≤ 12))))
def treeOk (t : List Pl) : Bool := (List.range t.tail.length).all (okAt t)
def checkN (t : List Pl) : Int := if 200 < t.length then 2 else if t = [] ∨ nth t 0 ≠ rootP then 150 else if treeOk t then 0 else 150
def OKs (t : List Pl) : Prop := t.length ≤ 1000000000 ∧ ∀ p ∈ t, p.name.size ≤ 4000000000 ∧ p.ver.pre.size ≤ 4000000000
theorem check18_ok (t : List Pl) (ht : OKs t) : CallsOK Tryz.prog 42 [rowT Pl.cells t] (iV (checkN t)) [] := by
 refine callsOK mixed Tryz.call42 Tryz.func42 rfl (by rw [Tryz.ntmps42]; simp) ?_ rfl
 rw [Tryz.ntmps42]
 have hl := ht.1
 with_reducible refine aR fun K' hK => ?_
 simp
 refine hK _ _ _ ?_; clear K' hK
 with_reducible refine aw_block ?_
 with_reducible refine aR fun K' hK => ?_
 simp
 refine hK _ _ _ ?_; clear K' hK
 by_cases h2 : (200 : Int) < t.length
 ·skip
  with_reducible refine aU (by simp [h2]) ?_
  with_reducible refine aA ?_
  with_reducible refine aR fun K' hK => ?_
  simp
  refine hK _ _ _ ?_; clear K' hK
  with_reducible refine aw_ret ?_
  simp [blockK, loopK, Post, resA, res1, expT, expA, exp1, expM, expL, okT, okA, ok1, rowOf, Tryz.f42]
  rw [checkN, if_pos (by omega)]
 ·skip
  with_reducible refine aV (by simp [h2]) ?_
  have h2' : ¬ 200 < t.length := by omega
  by_cases he : t = []
  ·with_reducible refine aA ?_
   with_reducible refine aR fun K' hK => ?_
   simp [he]
   refine hK _ _ _ ?_; clear K' hK
   with_reducible refine aX (by simp) ?_
   with_reducible refine aA ?_
   with_reducible refine aR fun K' hK => ?_
   simp
   refine hK _ _ _ ?_; clear K' hK
   with_reducible refine aw_ret ?_
   simp [blockK, loopK, Post, resA, res1, expT, expA, exp1, expM, expL, okT, okA, ok1, rowOf, Tryz.f42]
   rw [checkN, if_neg h2', if_pos (.inl he)]
  ·have hpos : 0 < t.length := List.length_pos_iff.2 he
   have hpos' : (0 : Int) < t.length := by omega
   have hpos1 : 1 ≤ t.length := hpos
   have hz : ¬ (t.length : Int) = 0 := by omega
   by_cases hr : nth t 0 = rootP
   ·with_reducible refine aA ?_
    with_reducible refine aR fun K' hK => ?_
    simp [hz, hpos, hpos', hr, he, rootC]
    refine hK _ _ _ ?_; clear K' hK
    with_reducible refine aYk (by simp) ?_
    with_reducible refine aw_skipL ?_
    refine blockK_normal ?_
    with_reducible refine aR fun K' hK => ?_
    simp
    refine hK _ _ _ ?_; clear K' hK
    have hmk : evMake Tryz.prog (Hp.upd (fun _ => none) 0 (.map [])) 1 49 (iV t.length) (iV t.length) = some (.row 1 t.length, (Hp.upd (fun _ => none) 0 (.map [])).upd 1 (.row 3 (flat iC (List.replicate t.length 0))), 2) := by
     simp only [evMake, elI48]
     rw [if_pos ⟨trivial, by omega, by omega, by omega⟩, Int.toNat_natCast, made_iC]
    with_reducible refine aR fun K' hK => ?_
    simp [hmk]
    refine hK _ _ _ ?_; clear K' hK
    with_reducible refine aA ?_
    with_reducible refine aR fun K' hK => ?_
    simp [hpos, hpos', hpos1, bnd_some]
    refine hK _ _ _ ?_; clear K' hK
    with_reducible refine aw_block ?_
    have htl : t.tail.length = t.length - 1 := List.length_tail
    have htk : t.tail.take (t.length - 1) = t.tail := List.take_of_length_le (by omega)
    refine aw_loop (fun s G nx => s 3 = .mp 0 ∧ s 4 = .row 1 t.length ∧ s 28 = rowT Pl.cells t.tail ∧ s 29 = iV (t.length - 1 : Nat) ∧ 2 ≤ nx ∧ ∃ i : Nat, s 30 = iV i ∧ i ≤ t.length - 1 ∧ G 0 = some (.map (entK (keysTo t i))) ∧ G 1 = some (.row 3 (flat iC (dD t i))) ∧ (List.range i).all (okAt t) = true ∧ ∀ x ∈ dD t i, 0 ≤ x ∧ x ≤ 12) (fun s _ _ => match s 30 with | .v (.int _ n) => t.length - n.toNat | _ => 0) ?_ ?_
    ·refine ⟨by simp, by simp, by simp [htk], by simp, by omega, 0, by simp, by omega, by simp [entK, keys_zero], by simp [dD], by simp, fun x hx => by simp [dD] at hx; omega⟩
    ·rintro s G nx - ⟨s3, s4, s28, s29, hnx, i, s30, hi, g0, g1, hall, hD⟩
     have hw : IntKind.i64.wrap (↑i + 1) = ((i + 1 : Nat) : Int) := wrapS (by omega)
     with_reducible refine aR fun K' hK => ?_
     simp [s29, s30]
     refine hK _ _ _ ?_; clear K' hK
     with_reducible refine aC fun A B hA hB => ?_
     simp
     refine ⟨fun hi2 => hA ?_, fun hi2 => hB ?_⟩ <;> clear hA hB A B <;> (try simp at hi2) <;> (try with_reducible refine aK ?_)
     ·skip
      with_reducible refine aw_block ?_
      have hi3 : i < t.length - 1 := by omega
      have hi4 : (i : Int) < (t.length - 1 : Nat) := by omega
      with_reducible refine aR fun K' hK => ?_
      simp [s28, s30, hi3, hi4]
      refine hK _ _ _ ?_; clear K' hK
      generalize hp : nth t.tail i = p
      with_reducible refine aR fun K' hK => ?_
      simp
      refine hK _ _ _ ?_; clear K' hK
      have n0 : ¬ 0 = nx := by omega
      have n1 : ¬ 1 = nx := by omega
      have n2 : ¬ 0 = nx + 1 := by omega
      have n3 : ¬ 1 = nx + 1 := by omega
      have n4 : ¬ nx = 0 := by omega
      refine aw_gen (fun u H ny => u 3 = .mp 0 ∧ u 4 = .row 1 t.length ∧ u 28 = rowT Pl.cells t.tail ∧ u 29 = iV (t.length - 1 : Nat) ∧ u 30 = iV i ∧ u 5 = iV i ∧ u 6 = .ptr nx 0 ∧ u 7 = .ptr (nx + 1) 0 ∧ 2 ≤ ny ∧ H 0 = some (.map (entK (keysTo t i))) ∧ H 1 = some (.row 3 (flat iC (dD t i))) ∧ H nx = some (.var 58 p.cells) ∧ H (nx + 1) = some (.var 113 (kC (keyP p)))) ?_ ?_
      ·refine ⟨by simp [s3], by simp [s4], by simp [s28], by simp [s29], by simp [s30], by simp, by simp, by simp, by omega, by simp [n0, n2, g0], by simp [n1, n3, n4, g1], by simp, ?_⟩
       simp [keyP, kC]
      rintro u H ny ⟨u3, u4, u28, u29, u30, u5, u6, u7, hny, h0, h1, h6, h7⟩
      have hpm : p ∈ t := List.mem_of_mem_tail (hp ▸ nth_mem (by omega))
      obtain ⟨b1, b2⟩ := ht.2 p hpm
      have hbad : okAt t i = false → checkN t = 150 := fun h => by
       rw [checkN, if_neg h2', if_neg (by simp [he, hr]), treeOk, range_false (by omega) h]; rfl
      by_cases a1 : p.par < 0
      ·with_reducible refine aA ?_
       with_reducible refine aR fun K' hK => ?_
       simp [u6, h6, a1]
       refine hK _ _ _ ?_; clear K' hK
       with_reducible refine aX (by simp) ?_
       with_reducible refine aA ?_
       with_reducible refine aR fun K' hK => ?_
       simp
       refine hK _ _ _ ?_; clear K' hK
       with_reducible refine aw_ret ?_
       simp [blockK, loopK, Post, resA, res1, expT, expA, exp1, expM, expL, okT, okA, ok1, rowOf, Tryz.f42]
       exact (hbad (by simp [okAt, hp]; omega)).symm
      ·by_cases a2 : (i : Int) < p.par
       ·with_reducible refine aA ?_
        with_reducible refine aR fun K' hK => ?_
        simp [u5, u6, h6, a1, a2]
        refine hK _ _ _ ?_; clear K' hK
        with_reducible refine aX (by simp) ?_
        with_reducible refine aA ?_
        with_reducible refine aR fun K' hK => ?_
        simp
        refine hK _ _ _ ?_; clear K' hK
        with_reducible refine aw_ret ?_
        simp [blockK, loopK, Post, resA, res1, expT, expA, exp1, expM, expL, okT, okA, ok1, rowOf, Tryz.f42]
        exact (hbad (by simp [okAt, hp]; omega)).symm
       ·cases hrt : rightF p.name p.ver with
        | false =>
         with_reducible refine aA ?_
         with_reducible refine aR fun K' hK => ?_
         simp [u5, u6, h6, a1, a2]
         refine acall_flat (right32_ok p.name p.ver b1 b2) rfl (by simp) ?_
         simp [hrt]
         refine hK _ _ _ ?_; clear K' hK
         with_reducible refine aX (by simp) ?_
         with_reducible refine aA ?_
         with_reducible refine aR fun K' hK => ?_
         simp
         refine hK _ _ _ ?_; clear K' hK
         with_reducible refine aw_ret ?_
         simp [blockK, loopK, Post, resA, res1, expT, expA, exp1, expM, expL, okT, okA, ok1, rowOf, Tryz.f42]
         exact (hbad (by simp [okAt, hp, hrt])).symm
        | true =>
         with_reducible refine aA ?_
         with_reducible refine aR fun K' hK => ?_
         simp [u5, u6, h6, a1, a2]
         refine acall_flat (right32_ok p.name p.ver b1 b2) rfl (by simp) ?_
         by_cases a4 : keyP p ∈ keysTo t i
         ·have a5 : decide (keyP p ∈ keysTo t i) = true := decide_eq_true a4
          have lk := lookupK h0 (keyP p)
          rw [a5] at lk
          simp [hrt, u3, u7, h7, lk]
          refine hK _ _ _ ?_; clear K' hK
          with_reducible refine aX (by simp) ?_
          with_reducible refine aA ?_
          with_reducible refine aR fun K' hK => ?_
          simp
          refine hK _ _ _ ?_; clear K' hK
          with_reducible refine aw_ret ?_
          simp [blockK, loopK, Post, resA, res1, expT, expA, exp1, expM, expL, okT, okA, ok1, rowOf, Tryz.f42]
          exact (hbad (by simp only [okAt, hp, a4, not_true, decide_false, Bool.false_and, Bool.and_false])).symm
         ·have a5 : decide (keyP p ∈ keysTo t i) = false := decide_eq_false a4
          have lk := lookupK h0 (keyP p)
          rw [a5] at lk
          simp [hrt, u3, u7, h7, lk]
          refine hK _ _ _ ?_; clear K' hK
          with_reducible refine aYk (by simp) ?_
          have hS : keysTo t i ++ [keyP p] = keysTo t (i + 1) := by rw [keys_succ (by omega), hp]
          have up := updateK h0 a4
          rw [hS] at up
          with_reducible refine aR fun K' hK => ?_
          simp [u3, u7, h7, up]
          refine hK _ _ _ ?_; clear K' hK
          have m1 : ¬ nx = 0 := by omega
          have j1 : (0 : Int) ≤ p.par := by omega
          have j2 : p.par < (t.length : Int) := by omega
          have j3 : p.par.toNat < (dD t i).length := by rw [dD_len]; omega
          have j4 : (0 : Int) ≤ (i : Int) + 1 := by omega
          have j5 : (i : Int) + 1 < (t.length : Int) := by omega
          have j6 : i + 1 < (dD t i).length := by rw [dD_len]; omega
          have hd := hD _ (nth_mem j3)
          generalize hdd : nth (dD t i) p.par.toNat = d at hd
          have hwd : IntKind.i64.wrap (d + 1) = d + 1 := wrap64 (by omega) (by omega)
          have hput : putO (flat iC (dD t i)) 1 (i + 1) 0 [iV (d + 1)] = flat iC (dD t (i + 1)) := by
           rw [dD, hp, hdd]
           exact putO_flat j6 (d + 1)
          with_reducible refine aR fun K' hK => ?_
          simp [m1, u4, u5, u6, h6, h1, hw, j1, j2, j3, j4, j5, j6, hdd, hwd, hput]
          refine hK _ _ _ ?_; clear K' hK
          have k1 : i + 1 < (dD t (i + 1)).length := by rw [dD_len]; omega
          have k2 : nth (dD t (i + 1)) (i + 1) = d + 1 := by
           rw [nth_eq k1]
           simp only [dD, List.getElem_set_self, hp, hdd]
          by_cases k3 : (12 : Int) < d + 1
          ·skip
           with_reducible refine aR fun K' hK => ?_
           simp [u4, u5, hw, j4, j5, k1, k2, k3]
           refine hK _ _ _ ?_; clear K' hK
           with_reducible refine aU (by simp) ?_
           with_reducible refine aA ?_
           with_reducible refine aR fun K' hK => ?_
           simp
           refine hK _ _ _ ?_; clear K' hK
           with_reducible refine aw_ret ?_
           simp [blockK, loopK, Post, resA, res1, expT, expA, exp1, expM, expL, okT, okA, ok1, rowOf, Tryz.f42]
           exact (hbad (by simp only [okAt, hp, hdd, show ¬ d + 1 ≤ 12 by omega, decide_false, Bool.and_false])).symm
          ·skip
           with_reducible refine aR fun K' hK => ?_
           simp [u4, u5, hw, j4, j5, k1, k2, k3]
           refine hK _ _ _ ?_; clear K' hK
           with_reducible refine aVk (by simp) ?_
           with_reducible refine aw_skipL ?_
           refine blockK_normal ?_
           with_reducible refine aS fun K' hK => ?_
           simp [u30, hw]
           refine hK _ _ _ ?_; clear K' hK
           refine aw_skipL (loopK_normal ?_ ?_)
           ·refine ⟨by simp [u3], by simp [u4], by simp [u28], by simp [u29], hny, i + 1, by simp [hw], by omega, by simp [m1], by simp, ?_, ?_⟩
            ·rw [range_all, hall]
             simp [okAt, hp, hdd, hrt, a4]; omega
            ·intro x hx
             rw [dD, hp, hdd] at hx
             rcases List.mem_or_eq_of_mem_set hx with hx | rfl
             ·exact hD x hx
             ·omega
           ·simp [s30, hw]; omega
     ·skip
      with_reducible refine aw_exit ?_
      refine loopK_exit (blockK_exit ?_)
      with_reducible refine aR fun K' hK => ?_
      simp
      refine hK _ _ _ ?_; clear K' hK
      with_reducible refine aw_retL ?_
      simp [blockK, loopK, Post, resA, res1, expT, expA, exp1, expM, expL, okT, okA, ok1, rowOf, Tryz.f42]
      have : i = t.tail.length := by omega
      rw [this] at hall
      rw [checkN, if_neg h2', if_neg (by simp [he, hr]), treeOk, hall]; rfl
   ·with_reducible refine aA ?_
    with_reducible refine aR fun K' hK => ?_
    simp [hz, hpos, hpos', hr, he, rootC]
    refine hK _ _ _ ?_; clear K' hK
    with_reducible refine aX (by simp) ?_
    with_reducible refine aA ?_
    with_reducible refine aR fun K' hK => ?_
    simp
    refine hK _ _ _ ?_; clear K' hK
    with_reducible refine aw_ret ?_
    simp [blockK, loopK, Post, resA, res1, expT, expA, exp1, expM, expL, okT, okA, ok1, rowOf, Tryz.f42]
    rw [checkN, if_neg h2', if_pos (.inr hr)]
set_option maxRecDepth 100000
set_option maxHeartbeats 4000000
def holdsF (t : List Pl) (i : Int) : Bool := decide (checkN t = 0) && (decide (0 ≤ i) && decide (i < t.length))
theorem holds43_ok (t : List Pl) (ht : OKs t) (i : Int) : CallsOK Tryz.prog 123 [rowT Pl.cells t, iV i] (bV (holdsF t i)) [] := by
 refine callsOK mixed Tryz.call123 Tryz.func123 rfl (by rw [Tryz.ntmps123]; simp) ?_ rfl
 rw [Tryz.ntmps123]
 with_reducible refine aR fun K' hK => ?_
 simp
 refine hK _ _ _ ?_; clear K' hK
 with_reducible refine aR fun K' hK => ?_
 simp
 refine acall_flat (check18_ok t ht) rfl (by simp) ?_
 by_cases h1 : checkN t = 0
 ·by_cases h2 : 0 ≤ i
  ·simp [h1, h2]
   refine hK _ _ _ ?_; clear K' hK
   with_reducible refine aw_retL ?_
   simp [blockK, loopK, Post, resA, res1, expT, expA, exp1, expM, expL, okT, okA, ok1, rowOf, Tryz.f123]
   simp [holdsF, h1, h2]
  ·simp [h1, h2]
   refine hK _ _ _ ?_; clear K' hK
   with_reducible refine aw_retL ?_
   simp [blockK, loopK, Post, resA, res1, expT, expA, exp1, expM, expL, okT, okA, ok1, rowOf, Tryz.f123]
   simp [holdsF, h1, h2]
 ·simp [h1]
  refine hK _ _ _ ?_; clear K' hK
  with_reducible refine aw_retL ?_
  simp [blockK, loopK, Post, resA, res1, expT, expA, exp1, expM, expL, okT, okA, ok1, rowOf, Tryz.f123]
  simp [holdsF, h1]
def parN (t : List Pl) (i : Nat) : Int := (nth t i).par
def Dn (t : List Pl) : Prop := ∀ i, i < t.length → parN t i < i
theorem check_good {t : List Pl} (h : checkN t = 0) : t.length ≤ 200 ∧ t ≠ [] ∧ nth t 0 = rootP ∧ ∀ i, i + 1 < t.length → okAt t i = true := by
 unfold checkN at h
 by_cases h1 : 200 < t.length
 ·rw [if_pos h1] at h; cases h
 ·rw [if_neg h1] at h
  by_cases h2 : t = [] ∨ nth t 0 ≠ rootP
  ·rw [if_pos h2] at h; cases h
  ·rw [if_neg h2] at h
   have h3 : ¬ t = [] ∧ nth t 0 = rootP := by simpa using h2
   by_cases h4 : treeOk t = true
   ·refine ⟨by omega, h3.1, h3.2, fun i hi => ?_⟩
    unfold treeOk at h4
    rw [List.all_eq_true] at h4
    exact h4 i (List.mem_range.2 (by rw [List.length_tail]; omega))
   ·rw [if_neg h4] at h; cases h
theorem nth_tail {t : List Pl} {i : Nat} (h : i + 1 < t.length) : nth t.tail i = nth t (i + 1) := by
 rw [nth_eq h, nth_eq (by rw [List.length_tail]; omega)]
 simp
theorem okAt_par {t : List Pl} {i : Nat} (h : i + 1 < t.length) (ho : okAt t i = true) : 0 ≤ parN t (i + 1) ∧ parN t (i + 1) ≤ i := by
 simp only [okAt, Bool.and_eq_true, decide_eq_true_eq, nth_tail h] at ho
 exact ⟨ho.1, ho.2.1⟩
theorem good_par {t : List Pl} (h : checkN t = 0) : parN t 0 = -1 ∧ ∀ i, i + 1 < t.length → 0 ≤ parN t (i + 1) ∧ parN t (i + 1) ≤ i := by
 obtain ⟨_, _, h3, h4⟩ := check_good h
 exact ⟨by rw [parN, h3]; rfl, fun i hi => okAt_par hi (h4 i hi)⟩
theorem good_dn {t : List Pl} (h : checkN t = 0) : Dn t := by
 obtain ⟨h1, h2⟩ := good_par h
 intro i hi
 cases i with
 | zero => rw [h1]; omega
 | succ i => have := h2 i hi; omega
def upF (t : List Pl) : Nat → Nat → List Nat
 | 0, _ => []
 | k + 1, i => i :: (if parN t i < 0 then [] else upF t k (parN t i).toNat)
def upN (t : List Pl) (i : Nat) : List Nat := upF t (i + 1) i
theorem upF_eq {t : List Pl} (hd : Dn t) : ∀ (m k i : Nat), i < k → i < m → i < t.length → upF t k i = upN t i
 | 0, k, i, _, h, _ => by omega
 | m + 1, 0, i, h, _, _ => by omega
 | m + 1, k + 1, i, hk, hm, hi => by
  have := hd i hi
  unfold upN
  rw [upF, upF]
  by_cases hp : parN t i < 0
  ·rw [if_pos hp, if_pos hp]
  ·rw [if_neg hp, if_neg hp, upF_eq hd m k _ (by omega) (by omega) (by omega), upF_eq hd m i _ (by omega) (by omega) (by omega)]
theorem up_step {t : List Pl} (hd : Dn t) {i : Nat} (hi : i < t.length) : upN t i = i :: (if parN t i < 0 then [] else upN t (parN t i).toNat) := by
 have := hd i hi
 conv => lhs; unfold upN
 rw [upF]
 by_cases hp : parN t i < 0
 ·rw [if_pos hp, if_pos hp]
 ·rw [if_neg hp, if_neg hp, upF_eq hd (i + 1) i _ (by omega) (by omega) (by omega)]
theorem up60 {t : List Pl} (hd : Dn t) (hl : t.length ≤ 1000000000) {L : Lp} {K : Exit → KS} {c : Code} (hc : Tryz.f173.body = some c) {id b1 b2 : Nat} (J : Nat → Hp → Nat → Prop)
  (hJ : ∀ i G nx, J i G nx → i < t.length ∧ G b1 = some (.var 3 [iV i]) ∧ G b2 = some (.var 29 [rowT Pl.cells t]) ∧ G id = some (L.o .ready none))
  (hy : ∀ i G nx, J i G nx → YldK Tryz.prog id [iV i] (fun v G' nx' => (v = bV true ∧ G' b1 = some (.var 3 [iV i]) ∧ G' b2 = some (.var 29 [rowT Pl.cells t]) ∧
    (0 ≤ parN t i → J (parN t i).toNat (G'.upd b1 (.var 3 [iV (parN t i)])) nx') ∧ (parN t i < 0 → rangeK L id K .normal L.s (G'.upd b1 (.var 3 [iV (parN t i)])) nx')) ∨
    (v = bV false ∧ rangeK L id K .ret L.s G' nx')) G nx)
  {i : Nat} {G : Hp} {nx : Nat} (h : J i G nx) : AW Tryz.prog 15 c (rangeK L id K) (argSl [.yl id, .ptr b1 0, .ptr b2 0]) G nx := by
 cases hc
 with_reducible refine aw_toS (aw_block ?_)
 refine aw_loop (fun s G nx => s 0 = .yl id ∧ s 1 = .ptr b1 0 ∧ s 2 = .ptr b2 0 ∧ ∃ n : Int, G b1 = some (.var 3 [iV n]) ∧ ((∃ i : Nat, n = i ∧ J i G nx) ∨ (n < 0 ∧ rangeK L id K .normal L.s G nx))) (fun _ G _ => match G b1 with | some (.var _ [.v (.int _ n)]) => (n + 1).toNat | _ => 0) ?_ ?_
 ·exact ⟨rfl, rfl, rfl, i, (hJ _ _ _ h).2.1, .inl ⟨i, rfl, h⟩⟩
 ·rintro s G nx - ⟨s0, s1, s2, n, g1, hn⟩
  rcases hn with ⟨i, rfl, hi⟩ | ⟨hn, hk⟩
  ·obtain ⟨hlt, _, g2, gid⟩ := hJ _ _ _ hi
   have hp := hd i hlt
   with_reducible refine aA ?_
   with_reducible refine aR fun K' hK => ?_
   simp [s1, g1]
   refine hK _ _ _ ?_; clear K' hK
   with_reducible refine aXk (by simp) ?_
   with_reducible refine aw_block ?_
   with_reducible refine aR fun K' hK => ?_
   simp [s0, s1, g1]
   refine ⟨⟨_, _, _, _, _, _, _, gid⟩, (hy _ _ _ hi).mono ?_⟩
   rintro v G' nx' (⟨rfl, h1, h2, h3, h4⟩ | ⟨rfl, h1⟩)
   ·simp
    refine hK _ _ _ ?_; clear K' hK
    with_reducible refine aVk (by simp) ?_
    with_reducible refine aw_skipL ?_
    refine blockK_normal ?_
    have hlt' : (i : Int) < t.length := by omega
    have hpi : (nth t i).par = parN t i := rfl
    with_reducible refine aS fun K' hK => ?_
    simp [s1, s2, h1, h2, hlt, hlt', hpi]
    refine hK _ _ _ ?_; clear K' hK
    refine aw_skipL (loopK_normal ?_ ?_)
    ·refine ⟨by simp [s0], by simp [s1], by simp [s2], parN t i, by simp, ?_⟩
     by_cases hneg : parN t i < 0
     ·exact .inr ⟨hneg, h4 hneg⟩
     ·exact .inl ⟨(parN t i).toNat, by omega, h3 (by omega)⟩
    ·simp [g1]; omega
   ·simp
    refine hK _ _ _ ?_; clear K' hK
    with_reducible refine aU (by simp) ?_
    refine aw_ret (blockK_ret (loopK_ret (blockK_ret ?_)))
    exact ⟨.inr rfl, h1.2⟩
  ·with_reducible refine aA ?_
   with_reducible refine aR fun K' hK => ?_
   simp [s1, g1]
   refine hK _ _ _ ?_; clear K' hK
   have hn' : ¬ 0 ≤ n := by omega
   with_reducible refine aY (by simp [hn']) ?_
   with_reducible refine aw_exit ?_
   refine loopK_exit (blockK_exit ?_)
   refine aw_skipL ?_
   exact ⟨.inl rfl, hk.2⟩
set_option maxRecDepth 100000
set_option maxHeartbeats 4000000
theorem upF_len {t : List Pl} : ∀ (k i : Nat), (upF t k i).length ≤ k
 | 0, i => by simp [upF]
 | k + 1, i => by
  rw [upF]
  split
  ·simp
  ·have := upF_len (t := t) k (parN t i).toNat
   simp; omega
theorem up_len {t : List Pl} (i : Nat) : (upN t i).length ≤ i + 1 := upF_len _ _
def heightN (t : List Pl) (i : Nat) : Int := (upN t i).length - 1
def underF (t : List Pl) (i : Nat) (x : Int) : Bool := (upN t i).any fun j => decide ((j : Int) = x)
theorem under40_ok (t : List Pl) (hd : Dn t) (hl : t.length ≤ 1000000000) (i : Nat) (hi : i < t.length) (x : Int) : CallsOK Tryz.prog 122 [rowT Pl.cells t, iV i, iV x] (bV (underF t i x)) [] := by
 refine callsOK mixed Tryz.call122 Tryz.func122 rfl (by rw [Tryz.ntmps122]; simp) ?_ rfl
 rw [Tryz.ntmps122]
 with_reducible refine aR fun K' hK => ?_
 simp
 refine hK _ _ _ ?_; clear K' hK
 with_reducible refine aA ?_
 with_reducible refine aR fun K' hK => ?_
 simp
 refine acall_inlK (inlK mixed Tryz.call135 Tryz.func135 rfl (by rw [Tryz.ntmps135]; simp) fun hf => ?_)
 rw [Tryz.ntmps135]
 with_reducible refine aR fun K' hK => ?_
 simp
 refine hK _ _ _ ?_; clear K' hK
 with_reducible refine aR fun K' hK => ?_
 simp
 refine hK _ _ _ ?_; clear K' hK
 with_reducible refine aw_retL ?_
 simp [blockK, loopK, Post, resA, res1, expT, expA, exp1, expM, expL, okT, okA, ok1, rowOf, Tryz.f135]
 refine hK _ _ _ ?_; clear K' hK
 refine aw_gen (fun s G nx => s 5 = .ptr 0 0 ∧ s 6 = .ptr 1 0 ∧ s 10 = .fn 173 [.ptr 3 0, .ptr 2 0] ∧ nx = 4 ∧ G 0 = some (.var 3 [iV x]) ∧ G 1 = some (.var 4 [bV false]) ∧ G 2 = some (.var 29 [rowT Pl.cells t]) ∧ G 3 = some (.var 3 [iV i])) ?_ ?_
 ·simp
  rfl
 rintro s G nx ⟨s5, s6, s10, rfl, g0, g1, g2, g3⟩
 with_reducible refine aw_block ?_
 refine aw_range (f := 173) (fn := Tryz.f173) mixed s10 Tryz.call173 Tryz.func173 rfl (by rw [Tryz.ntmps173]; simp) rfl ?_
 rw [Tryz.ntmps173]
 generalize hL : (Lp.mk s 15 _ _ _) = L
 have hLs : L.s = s := by subst hL; rfl
 refine up60 hd hl rfl (fun j G nx => underF t i x = (upN t j).any (fun j => decide ((j : Int) = x)) ∧ G 0 = some (.var 3 [iV x]) ∧ G 1 = some (.var 4 [bV false]) ∧ j < t.length ∧ G 3 = some (.var 3 [iV j]) ∧ G 2 = some (.var 29 [rowT Pl.cells t]) ∧ G 4 = some (L.o .ready none)) ?_ ?_ ⟨rfl, by simp [g0], by simp [g1], hi, by simp [g3], by simp [g2], by simp⟩
 ·rintro j G nx ⟨h1, h0, h6, h2, h3, h4, h5⟩
  exact ⟨h2, h3, h4, h5⟩
 ·rintro j G nx ⟨h1, h0, h6, h2, h3, h4, h5⟩
  have hst := up_step hd h2
  rw [hst, List.any_cons] at h1
  have hround : ∀ K : AV → Hp → Nat → Prop, (¬ (j : Int) = x → K (bV true) ((G.upd 4 (L.o .busy none)).upd 4 (L.o .ready none)) nx) → ((j : Int) = x → K (bV false) (((G.upd 4 (L.o .busy none)).upd 1 (.var 4 [bV true])).upd 4 (L.o .done (some .ret))) nx) → YldK Tryz.prog 4 [iV j] K G nx := by
   subst hL
   intro K k1 k2
   refine yldK mixed h5 rfl (by simp) rfl rfl fun hf => ?_
   with_reducible refine aS fun K' hK => ?_
   simp
   refine hK _ _ _ ?_; clear K' hK
   refine ⟨rfl, h5, ?_⟩
   dsimp only
   generalize (Lp.mk s 15 _ _ _) = L at h5 k1 k2 ⊢
   with_reducible refine aw_toS (aw_block ?_)
   with_reducible refine aR fun K' hK => ?_
   simp [s5, h0]
   refine hK _ _ _ ?_; clear K' hK
   by_cases hx : (j : Int) = x
   ·skip
    with_reducible refine aU (by simp [hx]) ?_
    with_reducible refine aA ?_
    with_reducible refine aR fun K' hK => ?_
    simp [s6, h6]
    refine hK _ _ _ ?_; clear K' hK
    refine aw_ret ?_
    refine blockK_ret ?_
    refine roundK_ret (by simp) ?_
    exact k2 hx
   ·skip
    with_reducible refine aVk (by simp [hx]) ?_
    with_reducible refine aw_skipL ?_
    refine blockK_normal ?_
    refine aw_skipL ?_
    refine roundK_normal (by simp) ?_
    exact k1 hx
  refine hround _ (fun hx => .inl ⟨rfl, by simp [h3], by simp [h4], fun hp => ?_, fun hp => ?_⟩) (fun hx => .inr ⟨rfl, ?_⟩)
  ·rw [if_neg (by omega)] at h1
   have := hd j h2
   simp only [hx, decide_false, Bool.false_or] at h1
   exact ⟨h1, by simp [h0], by simp [h6], by omega, by simp; omega, by simp [h4], by simp⟩
  ·rw [if_pos hp] at h1
   refine rangeK_on (.inl rfl) (by simp) ?_
   rw [hLs]
   refine blockK_normal ?_
   with_reducible refine aR fun K' hK => ?_
   simp [s6, h6]
   refine hK _ _ _ ?_; clear K' hK
   with_reducible refine aw_retL ?_
   simp [blockK, loopK, Post, resA, res1, expT, expA, exp1, expM, expL, okT, okA, ok1, rowOf, Tryz.f122, s6]
   rw [h1]; simp [hx]
  ·refine rangeK_ret (.inr rfl) (by simp) ?_
   rw [hLs]
   refine blockK_ret ?_
   simp [Post, resA, res1, expT, expA, exp1, expM, expL, okT, okA, ok1, rowOf, Tryz.f122, s6]
   rw [h1]; simp [hx]
set_option maxRecDepth 100000
set_option maxHeartbeats 4000000
def resL (t : List Pl) (name : Bs) : List Nat → Int
 | [] => -1
 | j :: r => match chF t j name with
  | some k => k
  | none => resL t name r
def resolveN (t : List Pl) (i : Int) (name : Bs) : Int := if holdsF t i then resL t name (upN t i.toNat) else -1
theorem holdsF_inv {t : List Pl} {i : Int} (h : holdsF t i = true) : checkN t = 0 ∧ 0 ≤ i ∧ i < t.length := by
 simpa [holdsF] using h
theorem resolve19_ok (t : List Pl) (ht : OKs t) (i : Int) (name : Bs) : CallsOK Tryz.prog 82 [rowT Pl.cells t, iV i, sV name] (iV (resolveN t i name)) [] := by
 refine callsOK mixed Tryz.call82 Tryz.func82 rfl (by rw [Tryz.ntmps82]; simp) ?_ rfl
 rw [Tryz.ntmps82]
 with_reducible refine aR fun K' hK => ?_
 simp
 refine hK _ _ _ ?_; clear K' hK
 refine aw_scopeL ?_
 with_reducible refine aA ?_
 with_reducible refine aR fun K' hK => ?_
 simp
 refine acall_flat (holds43_ok t ht i) rfl (by simp; rfl) ?_
 cases hh : holdsF t i with
 | false =>
  simp
  refine hK _ _ _ ?_; clear K' hK
  with_reducible refine aX (by simp) ?_
  with_reducible refine aA ?_
  with_reducible refine aR fun K' hK => ?_
  simp
  refine hK _ _ _ ?_; clear K' hK
  refine aw_ret ?_
  simp [scopeK, Post, resA, res1, expT, expA, exp1, expM, expL, okT, okA, ok1, rowOf, Tryz.f82]
  simp [resolveN, hh]
 | true =>
  obtain ⟨hch, hi0, hi1⟩ := holdsF_inv hh
  obtain ⟨n, rfl⟩ : ∃ n : Nat, i = n := ⟨i.toNat, by omega⟩
  have hn : n < t.length := by omega
  have hd := good_dn hch
  have hl := ht.1
  simp
  refine hK _ _ _ ?_; clear K' hK
  with_reducible refine aYk (by simp) ?_
  with_reducible refine aR fun K' hK => ?_
  simp
  refine hK _ _ _ ?_; clear K' hK
  refine aw_label ?_
  with_reducible refine aA ?_
  with_reducible refine aR fun K' hK => ?_
  simp
  refine acall_inlK (inlK mixed Tryz.call135 Tryz.func135 rfl (by rw [Tryz.ntmps135]; simp) fun hf => ?_)
  rw [Tryz.ntmps135]
  with_reducible refine aR fun K' hK => ?_
  simp
  refine hK _ _ _ ?_; clear K' hK
  with_reducible refine aR fun K' hK => ?_
  simp
  refine hK _ _ _ ?_; clear K' hK
  with_reducible refine aw_retL ?_
  simp [blockK, loopK, Post, resA, res1, expT, expA, exp1, expM, expL, okT, okA, ok1, rowOf, Tryz.f135]
  refine hK _ _ _ ?_; clear K' hK
  refine aw_gen (fun s G nx => s 3 = .ptr 0 0 ∧ s 5 = .ptr 1 0 ∧ s 7 = .ptr 2 0 ∧ s 17 = .fn 173 [.ptr 4 0, .ptr 3 0] ∧ nx = 5 ∧ G 0 = some (.var 29 [rowT Pl.cells t]) ∧ G 1 = some (.var 9 [sV name]) ∧ G 2 = some (.var 3 [iV (-1)]) ∧ G 3 = some (.var 29 [rowT Pl.cells t]) ∧ G 4 = some (.var 3 [iV n])) ?_ ?_
  ·simp
   exact ⟨rfl, rfl⟩
  rintro s G nx ⟨s3, s5, s7, s17, rfl, g0, g1, g2, g3, g4⟩
  with_reducible refine aw_block ?_
  refine aw_range (f := 173) (fn := Tryz.f173) mixed s17 Tryz.call173 Tryz.func173 rfl (by rw [Tryz.ntmps173]; simp) rfl ?_
  rw [Tryz.ntmps173]
  generalize hL : (Lp.mk s 41 _ _ _) = L
  have hLs : L.s = s := by subst hL; rfl
  refine up60 hd hl rfl (fun j G nx => 6 ≤ nx ∧ resL t name (upN t n) = resL t name (upN t j) ∧ G 0 = some (.var 29 [rowT Pl.cells t]) ∧ G 1 = some (.var 9 [sV name]) ∧ G 2 = some (.var 3 [iV (-1)]) ∧ j < t.length ∧ G 4 = some (.var 3 [iV j]) ∧ G 3 = some (.var 29 [rowT Pl.cells t]) ∧ G 5 = some (L.o .ready none)) ?_ ?_ ⟨by omega, rfl, by simp [g0], by simp [g1], by simp [g2], hn, by simp [g4], by simp [g3], by simp⟩
  ·rintro j G nx ⟨hnx, h1, h0, h6, h7, h2, h3, h4, h5⟩
   exact ⟨h2, h3, h4, h5⟩
  ·rintro j G nx ⟨hnx, h1, h0, h6, h7, h2, h3, h4, h5⟩
   have hst := up_step hd h2
   rw [hst, resL] at h1
   have hround : ∀ K : AV → Hp → Nat → Prop, (chF t j name = none → ∀ G' nx', nx ≤ nx' → (∀ i, i < 5 → G' i = G i) → G' 5 = some (L.o .ready none) → K (bV true) G' nx') →
     (∀ k : Nat, chF t j name = some k → ∀ G' nx', nx ≤ nx' → G' 2 = some (.var 3 [iV k]) → G' 5 = some (L.o .done (some (.exit 0))) → K (bV false) G' nx') → YldK Tryz.prog 5 [iV j] K G nx := by
    subst hL
    intro K k1 k2
    refine yldK mixed h5 rfl (by simp) rfl rfl fun hf => ?_
    with_reducible refine aS fun K' hK => ?_
    simp
    refine hK _ _ _ ?_; clear K' hK
    refine ⟨rfl, h5, ?_⟩
    dsimp only
    generalize (Lp.mk s 41 _ _ _) = L at h5 k1 k2 ⊢
    with_reducible refine aw_toS (aw_block ?_)
    have hpos : 1 ≤ t.length := by omega
    have htl : t.tail.length = t.length - 1 := List.length_tail
    have htk : t.tail.take (t.length - 1) = t.tail := List.take_of_length_le (by omega)
    with_reducible refine aR fun K' hK => ?_
    simp [s3, h0, hpos, bnd_some, htk]
    refine hK _ _ _ ?_; clear K' hK
    with_reducible refine aw_toS (aw_block ?_)
    refine aw_loop (fun s' G' nx' => s' 5 = .ptr 1 0 ∧ s' 7 = .ptr 2 0 ∧ s' 8 = iV j ∧ s' 20 = rowT Pl.cells t.tail ∧ s' 21 = iV (t.length - 1 : Nat) ∧ nx ≤ nx' ∧ (∀ i, i < 5 → G' i = G i) ∧ G' 5 = some (L.o .busy none) ∧ ∃ m : Nat, s' 22 = iV m ∧ m ≤ t.length - 1 ∧ ∀ i, i ≤ m → chP j name (nth t i) = false) (fun s _ _ => match s 22 with | .v (.int _ n) => t.length - n.toNat | _ => 0) ?_ ?_
    ·exact ⟨by simp [s5], by simp [s7], by simp, by simp, by simp, by omega, fun i hi => by simp; omega, by simp, 0, by simp, by omega, fun i hi => by
      have : i = 0 := by omega
      subst this
      have : parN t 0 = -1 := (good_par hch).1
      have h9 : ¬ (nth t 0).par = (j : Int) := by unfold parN at this; omega
      simp [chP, h9]⟩
    ·rintro s' G' nx' - ⟨u5, u7, u8, u20, u21, hnx', hag, hg5, m, u22, hm, hno⟩
     have hw : IntKind.i64.wrap (↑m + 1) = ((m + 1 : Nat) : Int) := wrapS (by omega)
     with_reducible refine aR fun K' hK => ?_
     simp [u21, u22]
     refine hK _ _ _ ?_; clear K' hK
     with_reducible refine aC fun A B hA hB => ?_
     simp
     refine ⟨fun hi2 => hA ?_, fun hi2 => hB ?_⟩ <;> clear hA hB A B <;> (try simp at hi2) <;> (try with_reducible refine aK ?_)
     ·skip
      with_reducible refine aw_block ?_
      have hi3 : m < t.length - 1 := by omega
      have hi4 : (m : Int) < (t.length - 1 : Nat) := by omega
      with_reducible refine aR fun K' hK => ?_
      simp [u20, u22, hi3, hi4]
      refine hK _ _ _ ?_; clear K' hK
      have hp1 : nth t.tail m = nth t (m + 1) := nth_tail (by omega)
      rw [hp1]
      generalize hp : nth t (m + 1) = p
      have q0 : ¬ 0 = nx' := by omega
      have q1 : ¬ 1 = nx' := by omega
      have q2 : ¬ 2 = nx' := by omega
      have q3 : ¬ 3 = nx' := by omega
      have q4 : ¬ 4 = nx' := by omega
      have q5 : ¬ 5 = nx' := by omega
      have e0 := hag 0 (by omega)
      have e1 := hag 1 (by omega)
      have e2 := hag 2 (by omega)
      have e3 := hag 3 (by omega)
      have e4 := hag 4 (by omega)
      rw [h6] at e1
      rw [h7] at e2
      have hag' : ∀ i, i < 5 → (G'.upd nx' (.var 58 p.cells)) i = G i := fun i hi => by rw [Hp.upd_ne _ _ (by omega)]; exact hag i hi
      refine aw_gen (fun v H ny => v 5 = .ptr 1 0 ∧ v 7 = .ptr 2 0 ∧ v 8 = iV j ∧ v 20 = rowT Pl.cells t.tail ∧ v 21 = iV (t.length - 1 : Nat) ∧ v 22 = iV m ∧ v 9 = iV m ∧ v 10 = .ptr nx' 0 ∧ nx ≤ ny ∧ (∀ i, i < 5 → H i = G i) ∧ H 1 = some (.var 9 [sV name]) ∧ H 2 = some (.var 3 [iV (-1)]) ∧ H 5 = some (L.o .busy none) ∧ H nx' = some (.var 58 p.cells)) ?_ ?_
      ·refine ⟨by simp [u5], by simp [u7], by simp [u8], by simp [u20], by simp [u21], by simp [u22], by simp, by simp, by omega, ?_, by simp [q1, e1], by simp [q2, e2], by simp [q5, hg5], by simp⟩
       intro i hi
       have : ¬ i = nx' := by omega
       simp [this, hag i hi]
      rintro v H ny ⟨v5, v7, v8, v20, v21, v22, v9, v10, hny, hagH, H1, H2, H5, Hx⟩
      by_cases c1 : p.par = j
      ·by_cases c2 : p.name = name
       ·skip
        with_reducible refine aR fun K' hK => ?_
        simp [v5, v8, v10, Hx, H1, c1, c2]
        refine hK _ _ _ ?_; clear K' hK
        with_reducible refine aU (by simp) ?_
        with_reducible refine aA ?_
        with_reducible refine aR fun K' hK => ?_
        simp [v9, v7, hw, H2]
        refine hK _ _ _ ?_; clear K' hK
        have hf : chF t j name = some (m + 1) := by
         unfold chF
         rw [List.findIdx?_eq_some_iff_getElem]
         refine ⟨by omega, by rw [← nth_eq (by omega), hp]; simp [chP, c1, c2], fun i hi => ?_⟩
         rw [← nth_eq (by omega)]; simpa using hno i (by omega)
        refine aw_exit (blockK_pass (by decide) (loopK_exit (blockK_pass (by decide) (blockK_pass (by decide) ?_))))
        refine roundK_exit (by simp [H5]) ?_
        exact k2 _ hf _ _ hny (by simp) (by simp)
       ·skip
        with_reducible refine aR fun K' hK => ?_
        simp [v5, v8, v10, Hx, H1, c1, c2]
        refine hK _ _ _ ?_; clear K' hK
        with_reducible refine aVk (by simp) ?_
        with_reducible refine aw_skipL ?_
        refine blockK_normal ?_
        with_reducible refine aS fun K' hK => ?_
        simp [v22, hw]
        refine hK _ _ _ ?_; clear K' hK
        refine aw_skipL (loopK_normal ?_ ?_)
        ·refine ⟨by simp [v5], by simp [v7], by simp [v8], by simp [v20], by simp [v21], hny, hagH, H5, m + 1, by simp [hw], by omega, fun i hi => ?_⟩
         rcases Nat.lt_or_ge m i with h | h
         ·have : i = m + 1 := by omega
          subst this
          rw [hp]; simp [chP, c2]
         ·exact hno i h
        ·simp [u22, hw]; omega
      ·skip
       with_reducible refine aR fun K' hK => ?_
       simp [v5, v8, v10, Hx, H1, c1]
       refine hK _ _ _ ?_; clear K' hK
       with_reducible refine aVk (by simp) ?_
       with_reducible refine aw_skipL ?_
       refine blockK_normal ?_
       with_reducible refine aS fun K' hK => ?_
       simp [v22, hw]
       refine hK _ _ _ ?_; clear K' hK
       refine aw_skipL (loopK_normal ?_ ?_)
       ·refine ⟨by simp [v5], by simp [v7], by simp [v8], by simp [v20], by simp [v21], hny, hagH, H5, m + 1, by simp [hw], by omega, fun i hi => ?_⟩
        rcases Nat.lt_or_ge m i with h | h
        ·have : i = m + 1 := by omega
         subst this
         rw [hp]; simp [chP, c1]
        ·exact hno i h
       ·simp [u22, hw]; omega
     ·skip
      with_reducible refine aw_exit ?_
      refine loopK_exit (blockK_exit ?_)
      have hf : chF t j name = none := by
       unfold chF
       rw [List.findIdx?_eq_none_iff]
       intro d hd
       obtain ⟨i, hi, rfl⟩ := List.mem_iff_getElem.1 hd
       rw [← nth_eq hi]; exact hno i (by omega)
      refine aw_skipL ?_
      refine blockK_normal ?_
      refine aw_skipL ?_
      refine roundK_normal hg5 ?_
      exact k1 hf _ _ hnx' (fun i hi => by rw [Hp.upd_ne _ _ (by omega)]; exact hag i hi) (by simp)
   refine hround _ (fun hf G' nx' hnx' hag hg5 => .inl ⟨rfl, by rw [hag 4 (by omega)]; exact h3, by rw [hag 3 (by omega)]; exact h4, fun hp => ?_, fun hp => ?_⟩) (fun k hf G' nx' hnx' hg2 hg5 => .inr ⟨rfl, ?_⟩)
   ·rw [hf, if_neg (by omega)] at h1
    have := hd j h2
    exact ⟨by omega, h1, by simp [hag, h0], by simp [hag, h6], by simp [hag, h7], by omega, by simp; omega, by simp [hag, h4], by simp [hg5]⟩
   ·rw [hf, if_pos hp] at h1
    refine rangeK_on (.inl rfl) (by simp [hg5]) ?_
    rw [hLs]
    refine blockK_normal ?_
    have e2 := hag 2 (by omega)
    rw [h7] at e2
    with_reducible refine aR fun K' hK => ?_
    simp [s7, e2]
    refine hK _ _ _ ?_; clear K' hK
    refine aw_retL ?_
    simp [scopeK, Post, resA, res1, expT, expA, exp1, expM, expL, okT, okA, ok1, rowOf, Tryz.f82]
    rw [resolveN, hh, if_pos rfl, Int.toNat_natCast, h1]; rfl
   ·rw [hf] at h1
    refine rangeK_exit (.inr rfl) hg5 ?_
    rw [hLs]
    refine blockK_exit ?_
    with_reducible refine aR fun K' hK => ?_
    simp [s7, hg2]
    refine hK _ _ _ ?_; clear K' hK
    refine aw_retL ?_
    simp [scopeK, Post, resA, res1, expT, expA, exp1, expM, expL, okT, okA, ok1, rowOf, Tryz.f82]
    rw [resolveN, hh, if_pos rfl, Int.toNat_natCast, h1]
set_option maxRecDepth 100000
set_option maxHeartbeats 4000000
theorem src_sl (P : Program) (G : Hp) (n : Nat) (cs : List AV) : srcOf P G (.sl n cs) = some (n, cs) := rfl
theorem new20_ok : CallsOK Tryz.prog 48 [] (.row 0 1) [(58, flat Pl.cells [rootP])] := by
 refine callsOK mixed Tryz.call48 Tryz.func48 rfl (by rw [Tryz.ntmps48]; simp) ?_ rfl
 rw [Tryz.ntmps48]
 with_reducible refine aR fun K' hK => ?_
 simp
 refine hK _ _ _ ?_; clear K' hK
 with_reducible refine aR fun K' hK => ?_
 simp
 refine hK _ _ _ ?_; clear K' hK
 with_reducible refine aw_retL ?_
 simp [blockK, loopK, Post, resA, res1, expT, expA, exp1, expM, expL, okT, okA, ok1, rowOf, Tryz.f48]
 rfl
def addCode (t : List Pl) (i : Int) (name : Bs) (v : Ver) : Int := if checkN t ≠ 0 then checkN t else if ¬ (0 ≤ i ∧ i < t.length) then 151 else if rightF name v = false then 1 else
 if chF t i name ≠ none then 152 else if 200 ≤ t.length ∨ 12 ≤ heightN t i.toNat then 2 else 0
def addT (t : List Pl) (i : Int) (name : Bs) (v : Ver) : List Pl := t ++ [⟨i, name, v⟩]
def addR (t : List Pl) (i : Int) (name : Bs) (v : Ver) : List Pl := if addCode t i name v = 0 then addT t i name v else []
def addI (t : List Pl) (i : Int) (name : Bs) (v : Ver) : Int := if addCode t i name v = 0 then t.length else 0
set_option maxRecDepth 100000
set_option maxHeartbeats 4000000
def entI (M : List (Int × Int)) : List (Value × AV) := M.map fun p => (.int .i64 p.1, iV p.2)
def getI (M : List (Int × Int)) (k : Int) : Int := match M.find? (fun p => decide (p.1 = k)) with
 | some p => p.2
 | none => 0
@[simp] theorem mapI57 : mapI Tryz.prog 130 = some (3, .int .i64, 3) := by kernel_rfl
@[simp] theorem zv3 : zvI Tryz.prog 3 = some (iV 0) := by kernel_rfl
def cutCode (t : List Pl) (i : Int) : Int := if checkN t ≠ 0 then checkN t else if 1 ≤ i ∧ i < t.length then 0 else 151
def keptN (t : List Pl) (i : Int) (k : Nat) : List Nat := (List.range k).filter fun j => !underF t j i
def renum (t : List Pl) (i : Int) (n : Int) : Int := if n < 0 then n else (keptN t i n.toNat).length
def cutP (t : List Pl) (i : Int) (j : Nat) : Pl := { nth t j with par := renum t i (parN t j) }
def cutT (t : List Pl) (i : Int) (k : Nat) : List Pl := (keptN t i k).map (cutP t i)
def cutM (t : List Pl) (i : Int) (k : Nat) : List (Int × Int) := (-1, -1) :: (keptN t i k).map fun (j : Nat) => ((j : Int), renum t i j)
def cutR (t : List Pl) (i : Int) : List Pl := if cutCode t i = 0 then cutT t i t.length else []
theorem kept_succ {t : List Pl} {i : Int} {k : Nat} : keptN t i (k + 1) = keptN t i k ++ if underF t k i = true then [] else [k] := by
 unfold keptN
 rw [List.range_succ, List.filter_append]
 congr 1
 cases h : underF t k i <;> simp [h]
theorem under_step {t : List Pl} (hd : Dn t) {k : Nat} (hk : k < t.length) (i : Int) : underF t k i = (decide ((k : Int) = i) || (!decide (parN t k < 0) && underF t (parN t k).toNat i)) := by
 unfold underF
 rw [up_step hd hk, List.any_cons]
 by_cases h : parN t k < 0
 ·simp [h]
 ·simp [h]
set_option maxRecDepth 100000
set_option maxHeartbeats 4000000
theorem same16_ok (a b : List Pl) (ha : a.length ≤ 1000000000) : CallsOK Tryz.prog 32 [rowT Pl.cells a, rowT Pl.cells b] (bV (decide (a = b))) [] := by
 refine callsOK mixed Tryz.call32 Tryz.func32 rfl (by rw [Tryz.ntmps32]; simp) ?_ rfl
 rw [Tryz.ntmps32]
 with_reducible refine aR fun K' hK => ?_
 simp
 refine hK _ _ _ ?_; clear K' hK
 with_reducible refine aA ?_
 with_reducible refine aR fun K' hK => ?_
 simp
 refine hK _ _ _ ?_; clear K' hK
 with_reducible refine aC fun A B hA hB => ?_
 simp
 refine ⟨fun hl => hA ?_, fun hl => hB ?_⟩ <;> clear hA hB A B <;> (try simp at hl) <;> (try with_reducible refine aK ?_)
 ·with_reducible refine aA ?_
  with_reducible refine aR fun K' hK => ?_
  simp
  refine hK _ _ _ ?_; clear K' hK
  with_reducible refine aw_ret ?_
  simp [blockK, loopK, Post, resA, res1, expT, expA, exp1, expM, expL, okT, okA, ok1, rowOf, Tryz.f32]
  intro e; exact hl (by rw [e])
 ·with_reducible refine aA ?_
  with_reducible refine aR fun K' hK => ?_
  simp
  refine hK _ _ _ ?_; clear K' hK
  with_reducible refine aw_block ?_
  refine aw_loop (fun s G nx => s 0 = rowT Pl.cells a ∧ s 1 = rowT Pl.cells b ∧ ∃ i : Nat, s 5 = iV i ∧ i ≤ a.length ∧ a.take i = b.take i) (fun s _ _ => match s 5 with | .v (.int _ n) => a.length - n.toNat | _ => 0) ?_ ?_
  ·exact ⟨by simp, by simp, 0, by simp, by omega, by simp⟩
  ·rintro s G nx - ⟨s0, s1, i, s5, hi, ht⟩
   have hw : IntKind.i64.wrap (↑i + 1) = ((i + 1 : Nat) : Int) := wrapS (by omega)
   with_reducible refine aA ?_
   with_reducible refine aR fun K' hK => ?_
   simp [s0, s5]
   refine hK _ _ _ ?_; clear K' hK
   with_reducible refine aC fun A B hA hB => ?_
   simp
   refine ⟨fun hi2 => hA ?_, fun hi2 => hB ?_⟩ <;> clear hA hB A B <;> (try simp at hi2) <;> (try with_reducible refine aK ?_)
   ·have hi3 : i < b.length := by omega
    with_reducible refine aw_block ?_
    with_reducible refine aQ fun K' hK => ?_
    simp (maxSteps := 1000000) [s0, s1, s5, hi2, hi3]
    refine hK _ _ _ ?_; clear K' hK
    by_cases h1 : nth a i = nth b i
    ·skip
     with_reducible refine aVk (by simp [h1]) ?_
     with_reducible refine aw_skipL ?_
     refine blockK_normal ?_
     with_reducible refine aS fun K' hK => ?_
     simp [s5, hw]
     refine hK _ _ _ ?_; clear K' hK
     refine aw_skipL (loopK_normal ?_ ?_)
     ·exact ⟨by simp [s0], by simp [s1], i + 1, by simp [hw], by omega, take_nth hi2 hi3 ht h1⟩
     ·simp [s5, hw]; omega
    ·skip
     with_reducible refine aU (by simp [h1]) ?_
     with_reducible refine aA ?_
     with_reducible refine aR fun K' hK => ?_
     simp
     refine hK _ _ _ ?_; clear K' hK
     with_reducible refine aw_ret ?_
     simp [blockK, loopK, Post, resA, res1, expT, expA, exp1, expM, expL, okT, okA, ok1, rowOf, Tryz.f32]
     exact ne_nth h1
   ·skip
    with_reducible refine aw_exit ?_
    refine loopK_exit (blockK_exit ?_)
    with_reducible refine aR fun K' hK => ?_
    simp
    refine hK _ _ _ ?_; clear K' hK
    with_reducible refine aw_retL ?_
    simp [blockK, loopK, Post, resA, res1, expT, expA, exp1, expM, expL, okT, okA, ok1, rowOf, Tryz.f32]
    exact eq_of_take (by omega) (by omega) ht
def bigV (v : Ver) : Bool := decide (300 < v.pre.size)
theorem big31_ok (v : Ver) : CallsOK Tryz.prog 74 [.agg v.cells] (bV (bigV v)) [] := by
 refine callsOK mixed Tryz.call74 Tryz.func74 rfl (by rw [Tryz.ntmps74]; simp) ?_ rfl
 rw [Tryz.ntmps74]
 with_reducible refine aR fun K' hK => ?_
 simp
 refine hK _ _ _ ?_; clear K' hK
 with_reducible refine aR fun K' hK => ?_
 simp
 refine hK _ _ _ ?_; clear K' hK
 with_reducible refine aw_retL ?_
 simp [blockK, loopK, Post, resA, res1, expT, expA, exp1, expM, expL, okT, okA, ok1, rowOf, Tryz.f74]
 simp [bigV]; omega
def bigP (p : Pl) : Bool := decide (300 < p.name.size) || bigV p.ver
def bigT (t : List Pl) : Bool := decide ((40 < t.length ∧ t.length ≤ 200) ∨ 210 < t.length) || t.any bigP
theorem big30_ok (t : List Pl) (hl : t.length ≤ 9223372036854775807) : CallsOK Tryz.prog 54 [rowT Pl.cells t] (bV (bigT t)) [] := by
 refine callsOK mixed Tryz.call54 Tryz.func54 rfl (by rw [Tryz.ntmps54]; simp) ?_ rfl
 rw [Tryz.ntmps54]
 with_reducible refine aR fun K' hK => ?_
 simp
 refine hK _ _ _ ?_; clear K' hK
 with_reducible refine aA ?_
 refine aw_cut (fun s G nx => s 0 = rowT Pl.cells t ∧ s 16 = bV (decide ((40 < t.length ∧ t.length ≤ 200) ∨ 210 < t.length))) ?_ ?_
 ·by_cases a1 : (40 : Int) < t.length
  ·by_cases a2 : (t.length : Int) ≤ 200
   ·skip
    with_reducible refine aS fun K' hK => ?_
    simp [a1, a2]
    refine hK _ _ _ ?_; clear K' hK
    with_reducible refine aw_end ?_
    simp; omega
   ·skip
    with_reducible refine aS fun K' hK => ?_
    simp [a1, a2]
    refine hK _ _ _ ?_; clear K' hK
    with_reducible refine aw_end ?_
    refine ⟨by simp, ?_⟩
    simp
    rw [Bool.eq_iff_iff]
    simp; omega
  ·skip
   with_reducible refine aS fun K' hK => ?_
   simp [a1]
   refine hK _ _ _ ?_; clear K' hK
   with_reducible refine aw_end ?_
   refine ⟨by simp, ?_⟩
   simp
   rw [Bool.eq_iff_iff]
   simp; omega
 ·rintro s G nx ⟨s0, s16⟩
  by_cases hbig : (40 < t.length ∧ t.length ≤ 200) ∨ 210 < t.length
  ·rw [decide_eq_true hbig] at s16
   with_reducible refine aX (by simp [s16]) ?_
   with_reducible refine aA ?_
   with_reducible refine aR fun K' hK => ?_
   simp
   refine hK _ _ _ ?_; clear K' hK
   with_reducible refine aw_ret ?_
   simp [blockK, loopK, Post, resA, res1, expT, expA, exp1, expM, expL, okT, okA, ok1, rowOf, Tryz.f54]
   rw [bigT, decide_eq_true hbig]; rfl
  rw [decide_eq_false hbig] at s16
  have hs := decide_eq_false hbig
  with_reducible refine aYk (by simp [s16]) ?_
  with_reducible refine aA ?_
  with_reducible refine aR fun K' hK => ?_
  simp
  refine hK _ _ _ ?_; clear K' hK
  with_reducible refine aw_block ?_
  refine aw_loop (fun s G nx => s 0 = rowT Pl.cells t ∧ ∃ i : Nat, s 3 = iV i ∧ i ≤ t.length ∧ (t.take i).any bigP = false) (fun s _ _ => match s 3 with | .v (.int _ n) => t.length - n.toNat | _ => 0) ?_ ?_
  ·exact ⟨by simp [s0], 0, by simp, by omega, by simp⟩
  ·rintro s G nx - ⟨s0, i, s3, hi, ht⟩
   have hw : IntKind.i64.wrap (↑i + 1) = ((i + 1 : Nat) : Int) := wrapS (by omega)
   with_reducible refine aA ?_
   with_reducible refine aR fun K' hK => ?_
   simp [s0, s3]
   refine hK _ _ _ ?_; clear K' hK
   with_reducible refine aC fun A B hA hB => ?_
   simp
   refine ⟨fun hi2 => hA ?_, fun hi2 => hB ?_⟩ <;> clear hA hB A B <;> (try simp at hi2) <;> (try with_reducible refine aK ?_)
   ·skip
    with_reducible refine aw_block ?_
    have hst := any_take1 (p := bigP) hi2
    generalize hp : nth t i = p at hst
    by_cases h1 : (300 : Int) < p.name.size
    ·skip
     with_reducible refine aR fun K' hK => ?_
     simp [s0, s3, hi2, hp, h1]
     refine hK _ _ _ ?_; clear K' hK
     with_reducible refine aU (by simp) ?_
     with_reducible refine aA ?_
     with_reducible refine aR fun K' hK => ?_
     simp
     refine hK _ _ _ ?_; clear K' hK
     with_reducible refine aw_ret ?_
     simp [blockK, loopK, Post, resA, res1, expT, expA, exp1, expM, expL, okT, okA, ok1, rowOf, Tryz.f54]
     have : bigP p = true := by simp [bigP]; omega
     rw [bigT, show t.any bigP = true from List.any_eq_true.2 ⟨p, hp ▸ nth_mem hi2, this⟩]; simp
    ·skip
     with_reducible refine aR fun K' hK => ?_
     simp [s0, s3, hi2, hp, h1]
     refine acall_flat (big31_ok p.ver) rfl (by simp) ?_
     simp
     refine hK _ _ _ ?_; clear K' hK
     cases h2 : bigV p.ver with
     | true =>
      with_reducible refine aU (by simp) ?_
      with_reducible refine aA ?_
      with_reducible refine aR fun K' hK => ?_
      simp
      refine hK _ _ _ ?_; clear K' hK
      with_reducible refine aw_ret ?_
      simp [blockK, loopK, Post, resA, res1, expT, expA, exp1, expM, expL, okT, okA, ok1, rowOf, Tryz.f54]
      have : bigP p = true := by simp [bigP, h2]
      rw [bigT, show t.any bigP = true from List.any_eq_true.2 ⟨p, hp ▸ nth_mem hi2, this⟩]; simp
     | false =>
      with_reducible refine aVk (by simp) ?_
      with_reducible refine aw_skipL ?_
      refine blockK_normal ?_
      with_reducible refine aS fun K' hK => ?_
      simp [s3, hw]
      refine hK _ _ _ ?_; clear K' hK
      refine aw_skipL (loopK_normal ?_ ?_)
      ·exact ⟨by simp [s0], i + 1, by simp [hw], by omega, by rw [hst, ht]; simp [bigP, h2]; omega⟩
      ·simp [s3, hw]; omega
   ·skip
    with_reducible refine aw_exit ?_
    refine loopK_exit (blockK_exit ?_)
    with_reducible refine aR fun K' hK => ?_
    simp
    refine hK _ _ _ ?_; clear K' hK
    with_reducible refine aw_retL ?_
    simp [blockK, loopK, Post, resA, res1, expT, expA, exp1, expM, expL, okT, okA, ok1, rowOf, Tryz.f54]
    rw [List.take_of_length_le (by omega)] at ht
    rw [bigT, hs, ht]; rfl
def largeF (t : List Pl) (name : Bs) (v : Ver) : Bool := bigT t || (decide (1000 < name.size) || bigV v)
set_option maxRecDepth 100000
set_option maxHeartbeats 400000
def sC (b : Bs) : List AV := [sV b]
instance : Wid sC 1 := ⟨fun _ => rfl, by decide⟩
@[simp] theorem sC_get (b : Bs) : getC (sC b) 0 1 = some [sV b] := rfl
theorem flat_sC (l : List Bs) : flat sC l = l.map fun b => sV b := by
 induction l with
 | nil => rfl
 | cons a l ih => rw [List.map_cons, ← ih]; rfl
theorem join72 (xs : List Bs) (sep : Bs) (hN : xs.length ≤ 140737488355328) (hlen : (Lib.join (xs.map bsL) (bsL sep)).length ≤ 140737488355328) : CallsOK Tryz.prog 203 [rowT sC xs, sV sep] (sV (ofL (Lib.join (xs.map bsL) (bsL sep)))) [] := by
 refine ⟨rfl, Tryz.call203, fun w us F hF hΓ hx => ?_⟩
 obtain ⟨u, us, rfl, h1, hx⟩ := hx.uncons
 obtain ⟨u2, us, rfl, h2, hx⟩ := hx.uncons
 have : us = [] := List.eq_nil_of_length_eq_zero (by simpa using hx.1)
 subst this
 obtain ⟨rfl, _⟩ := h2.v_inv
 have fin : ∀ {s : Bs}, s = ofL (Lib.join (xs.map bsL) (bsL sep)) → (Calls Tryz.prog 203 #[u, .string sep] w fun e w' => e = .returned (.string s) ∧ Below w.heap.size w w') → Calls Tryz.prog 203 #[u, .string sep] w fun e w' => ∃ v E', e = .returned v ∧ VR Tryz.prog E' w' (sV (ofL (Lib.join (xs.map bsL) (bsL sep)))) v ∧ Rel Tryz.prog E' w' (ofJ []) ∧ E'.F = F ∧ Below w.heap.size w w' ∧ ∀ i b, E'.φ i = some b → w.heap.size ≤ b := by
  rintro s rfl h
  refine h.mono ?_
  rintro e w' ⟨rfl, hb⟩
  have hext : Ext (fun _ => False) w w' := Ext.of_below _ hb
  exact ⟨_, En.zero F, rfl, .tree (.v rfl), rel_zero (fun b h => Nat.lt_of_lt_of_le (hF b h) hb.size) (fun w'' h' => hΓ w'' (hext.toC.trans h' fun _ _ h => h)), rfl, hb, fun i b h => (by cases h)⟩
 have ht := h1.sl_inv
 have hfl := flat_sC xs
 cases xs with
 | nil =>
  cases ht with
  | nil A hn => exact fin rfl ((Tryz.strings_Join_none _ _ sep w).mono fun e w' ⟨h1, h2⟩ => ⟨h1, by rw [h2]; exact Below.refl _ _⟩)
  | sl hn h0 => simp at h0
 | cons x xs =>
  cases ht with
  | @sl _ _ ad cap us hn h0 hb hl hc hr =>
   have hn0 : (flat sC (x :: xs)).length = (x :: xs).length := by rw [hfl]; simp
   have hsp : ad = ⟨ad.block, ad.off, none⟩ := by
    obtain ⟨u0, hu0⟩ : ∃ u0, us[0]? = some u0 := ⟨_, List.getElem?_eq_getElem (by omega)⟩
    have h3 := hc 0 u0 hu0
    have e0 : ad.add 0 = ad := by simp [Addr.add]
    rw [e0] at h3
    unfold World.cell? at h3
    split at h3
    ·obtain ⟨b, o, sp⟩ := ad
     cases sp with
     | none => rfl
     | some _ => simp at h3
    ·cases h3
   have hcells : ∀ (j : Nat) y, (x :: xs)[j]? = some y → w.cell? ⟨ad.block, ad.off + j, none⟩ = some (.string y) := by
    intro j y hy
    have hj : j < (x :: xs).length := (List.getElem?_eq_some_iff.1 hy).1
    obtain ⟨uj, huj⟩ : ∃ uj, us[j]? = some uj := ⟨_, List.getElem?_eq_getElem (by omega)⟩
    have h3 := hr j (sV y) uj (by rw [hfl, List.getElem?_map, hy]; rfl) huj
    have h4 : uj = .string y := by cases h3; rfl
    have h5 := hc j uj huj
    rw [hsp, add_lit, h4] at h5
    exact h5
   have hbk : ad.block < w.heap.size := World.block_lt_of_cell? w ⟨ad.block, ad.off + 0, none⟩ (hcells 0 x rfl)
   have hn' : (x :: xs).length ≤ cap := hn
   have ebs : (fun b : Bs => b.data.toList) = bsL := rfl
   have hj := Tryz.strings_Join ad.block ad.off cap (x :: xs) sep w hcells hbk hN hn'
   rw [ebs] at hj
   have hj := hj hlen
   rw [← hsp] at hj
   exact fin rfl hj
set_option maxRecDepth 100000
set_option maxHeartbeats 1000000
@[simp] theorem elI67 : elI Tryz.prog 106 = some (9, 1, 16, [.string ⟨#[]⟩]) := by kernel_rfl
set_option maxRecDepth 100000
set_option maxHeartbeats 1000000
def nmB : Bs := ⟨#[110, 111, 100, 101, 95, 109, 111, 100, 117, 108, 101, 115, 47]⟩
def preB (b : Bs) : Bs := nmB ++ b
def pathCode (l : List Bs) : Int := if 12 < l.length then 30 else if l.all (fun b => goodF (bsL b)) then 0 else 30
def pathS (l : List Bs) : Bs := if pathCode l = 0 then ofL (Lib.join (l.map fun b => bsL (preB b)) [47]) else ⟨#[]⟩
theorem join_len (sep : List UInt8) (n : Nat) : ∀ (xs : List (List UInt8)), (∀ x ∈ xs, x.length ≤ n) → (Lib.join xs sep).length ≤ xs.length * (n + sep.length)
 | [], _ => by simp [Lib.join, List.intercalate]
 | [x], h => by
  have := h x (by simp)
  simp [Lib.join, List.intercalate]; omega
 | x :: y :: xs, h => by
  have h1 := h x (by simp)
  have ih := join_len sep n (y :: xs) (fun z hz => h z (List.mem_cons_of_mem _ hz))
  have e : Lib.join (x :: y :: xs) sep = x ++ (sep ++ Lib.join (y :: xs) sep) := by
   simp [Lib.join, List.intercalate]
  rw [e, List.length_append, List.length_append, List.length_cons, Nat.add_mul]
  omega
set_option maxRecDepth 100000
set_option maxHeartbeats 1000000
def namesU (t : List Pl) (l : List Nat) : List Bs := (l.filter fun j => decide (0 < j)).map fun j => (nth t j).name
def pathL (t : List Pl) (i : Nat) : List Bs := (namesU t (upN t i)).reverse
def AccAt (G : Hp) (nx : Nat) (x : AV) (acc : List Bs) : Prop := (x = .v (.slice none 0 0) ∧ acc = []) ∨ ∃ r, x = .row r acc.length ∧ G r = some (.row 9 (flat sC acc)) ∧ 5 ≤ r ∧ r < nx
def pathOf (t : List Pl) (i : Int) : Bs := if holdsF t i then pathS (pathL t i.toNat) else ⟨#[]⟩
set_option maxRecDepth 100000
set_option maxHeartbeats 1000000
def nmL : List UInt8 := [110, 111, 100, 101, 95, 109, 111, 100, 117, 108, 101, 115, 47]
def partS (l : List UInt8) : Bs × List UInt8 × Bool :=
 let c := Lib.cut (Lib.trimPrefix l nmL) [47]
 let c2 := Lib.cut c.2.1 [47]
 let b := Lib.hasPrefix c.1 [64] && c.2.2
 (if Lib.hasPrefix l nmL = false then ⟨#[]⟩ else if b then ofL c.1 ++ (⟨#[47]⟩ ++ ofL c2.1) else ofL c.1, if b then c2.2 else c.2)
def splitGo : Nat → List UInt8 → Option (List Bs)
 | 0, _ => none
 | k + 1, l => if goodF (bsL (partS l).1) then (if (partS l).2.2 then (splitGo k (partS l).2.1).map ((partS l).1 :: ·) else some [(partS l).1]) else none
def splitF (s : Bs) : Option (List Bs) := if s = ⟨#[]⟩ then some [] else splitGo 12 (bsL s)
def splitR (s : Bs) : AV × Js := match splitF s with
 | none => (.tup [.v (.slice none 0 0), bV false], [])
 | some [] => (.tup [.v (.slice none 0 0), bV true], [])
 | some (a :: l) => (.tup [.row 0 (a :: l).length, bV true], [(9, flat sC (a :: l))])
set_option maxRecDepth 100000
set_option maxHeartbeats 1000000
def findGo (t : List Pl) : Int → List Bs → Option Int
 | c, [] => some c
 | c, b :: r => match chF t c b with
  | some k => findGo t k r
  | none => none
def findF (t : List Pl) (s : Bs) : Option Int := match splitF s with
 | none => none
 | some l => if checkN t = 0 then findGo t 0 l else none
set_option maxRecDepth 100000
set_option maxHeartbeats 1000000
def belowK (t : List Pl) (i : Nat) (k : Nat) : List Int := ((List.range k).filter fun j => decide (i ≤ j) && underF t j i).map fun (j : Nat) => (j : Int)
def belowL (t : List Pl) (i : Int) : List Int := if holdsF t i then belowK t i.toNat t.length else []
theorem belowK_succ {t : List Pl} {i k : Nat} (h : i ≤ k) : belowK t i (k + 1) = belowK t i k ++ if underF t k i = true then [(k : Int)] else [] := by
 unfold belowK
 rw [List.range_succ, List.filter_append, List.map_append]
 congr 1
 cases hu : underF t k i <;> simp [hu, h]
theorem belowK_len {t : List Pl} {i k : Nat} : (belowK t i k).length ≤ k := by
 have := List.length_filter_le (fun j => decide (i ≤ j) && underF t j i) (List.range k)
 simpa [belowK] using this
theorem below28_ok (t : List Pl) (ht : OKs t) (i : Int) : CallsOK Tryz.prog 69 [rowT Pl.cells t, iV i] (.row 0 (belowL t i).length) [(3, flat iC (belowL t i))] := by
 refine callsOK mixed Tryz.call69 Tryz.func69 rfl (by rw [Tryz.ntmps69]; simp) ?_ rfl
 rw [Tryz.ntmps69]
 with_reducible refine aR fun K' hK => ?_
 simp
 refine hK _ _ _ ?_; clear K' hK
 with_reducible refine aA ?_
 with_reducible refine aR fun K' hK => ?_
 simp
 refine acall_flat (holds43_ok t ht i) rfl (by simp) ?_
 cases hh : holdsF t i with
 | false =>
  have e : belowL t i = [] := by rw [belowL, hh]; rfl
  simp
  refine hK _ _ _ ?_; clear K' hK
  with_reducible refine aX (by simp) ?_
  with_reducible refine aA ?_
  with_reducible refine aR fun K' hK => ?_
  simp
  refine hK _ _ _ ?_; clear K' hK
  with_reducible refine aw_ret ?_
  simp [blockK, loopK, Post, resA, res1, expT, expA, exp1, expM, expL, okT, okA, ok1, rowOf, Tryz.f69]
  rw [e]
  exact ⟨[1], ⟨rfl, rfl⟩, rfl⟩
 | true =>
  obtain ⟨hch, hi0, hi1⟩ := holdsF_inv hh
  obtain ⟨n, rfl⟩ : ∃ n : Nat, i = n := ⟨i.toNat, by omega⟩
  have hn : n < t.length := by omega
  have hd := good_dn hch
  have hl := ht.1
  have e : belowL t n = belowK t n t.length := by rw [belowL, hh]; simp
  have hk0 : belowK t n n = [] := by
   unfold belowK
   rw [show (List.range n).filter (fun j => decide (n ≤ j) && underF t j n) = [] from List.filter_eq_nil_iff.2 (fun j hj => by have := List.mem_range.1 hj; simp; omega)]; rfl
  simp
  refine hK _ _ _ ?_; clear K' hK
  with_reducible refine aYk (by simp) ?_
  with_reducible refine aR fun K' hK => ?_
  simp
  refine hK _ _ _ ?_; clear K' hK
  with_reducible refine aA ?_
  with_reducible refine aR fun K' hK => ?_
  simp
  refine hK _ _ _ ?_; clear K' hK
  with_reducible refine aw_block ?_
  refine aw_loop (fun u G nx => u 0 = rowT Pl.cells t ∧ u 1 = iV n ∧ ∃ k r : Nat, u 6 = iV k ∧ n ≤ k ∧ k ≤ t.length ∧ u 5 = .row r (belowK t n k).length ∧ G r = some (.row 3 (flat iC (belowK t n k))) ∧ r < nx) (fun u _ _ => match u 6 with | .v (.int _ n) => t.length - n.toNat | _ => 0) ?_ ?_
  ·exact ⟨by simp, by simp, n, 1, by simp, by omega, by omega, by simp [hk0], by simp [hk0], by omega⟩
  ·rintro u G nx - ⟨u0, u1, k, r, u6, hnk, hk, u5, gr, hrn⟩
   have hw : IntKind.i64.wrap (↑k + 1) = ((k + 1 : Nat) : Int) := wrapS (by omega)
   have hbs := belowK_succ (t := t) hnk
   have hlen := belowK_len (t := t) (i := n) (k := k)
   with_reducible refine aA ?_
   with_reducible refine aR fun K' hK => ?_
   simp [u0, u6]
   refine hK _ _ _ ?_; clear K' hK
   with_reducible refine aC fun A B hA hB => ?_
   simp
   refine ⟨fun hi2 => hA ?_, fun hi2 => hB ?_⟩ <;> clear hA hB A B <;> (try simp at hi2) <;> (try with_reducible refine aK ?_)
   ·skip
    with_reducible refine aw_block ?_
    with_reducible refine aR fun K' hK => ?_
    simp [u0, u1, u6]
    refine acall_flat (under40_ok t hd hl k hi2 n) rfl (by simp) ?_
    simp
    refine hK _ _ _ ?_; clear K' hK
    cases hu : underF t k n with
    | true =>
     rw [hu] at hbs
     have b1 : (belowK t n k).length + 1 ≤ 9223372036854775807 := by omega
     have b2 : ((belowK t n k).length + 1) * 8 ≤ 140737488355328 := by omega
     have n1 : ¬ r = nx := by omega
     with_reducible refine aU (by simp) ?_
     with_reducible refine aR fun K' hK => ?_
     simp [u5, u6, gr, b1, b2, n1, treeOf_row, srcOf_row]
     refine hK _ _ _ ?_; clear K' hK
     with_reducible refine aw_skipL ?_
     refine blockK_normal ?_
     with_reducible refine aS fun K' hK => ?_
     simp [u6, hw]
     refine hK _ _ _ ?_; clear K' hK
     refine aw_skipL (loopK_normal ?_ ?_)
     ·refine ⟨by simp [u0], by simp [u1], k + 1, nx + 1, by simp [hw], by omega, by omega, ?_, ?_, by omega⟩
      ·rw [hbs]; simp
      ·rw [hbs, if_pos rfl, Hp.upd_self, ← flat_app]; rfl
     ·simp [u6, hw]; omega
    | false =>
     rw [hu] at hbs
     have hbs' : belowK t n (k + 1) = belowK t n k := by rw [hbs]; simp
     with_reducible refine aVk (by simp) ?_
     with_reducible refine aw_skipL ?_
     refine blockK_normal ?_
     with_reducible refine aS fun K' hK => ?_
     simp [u6, hw]
     refine hK _ _ _ ?_; clear K' hK
     refine aw_skipL (loopK_normal ?_ ?_)
     ·exact ⟨by simp [u0], by simp [u1], k + 1, r, by simp [hw], by omega, by omega, by rw [hbs']; simp [u5], by rw [hbs']; exact gr, hrn⟩
     ·simp [u6, hw]; omega
   ·skip
    with_reducible refine aw_exit ?_
    refine loopK_exit (blockK_exit ?_)
    have : k = t.length := by omega
    subst this
    with_reducible refine aR fun K' hK => ?_
    simp [u5]
    refine hK _ _ _ ?_; clear K' hK
    with_reducible refine aw_retL ?_
    simp [blockK, loopK, Post, resA, res1, expT, expA, exp1, expM, expL, okT, okA, ok1, rowOf, Tryz.f69, gr]
    rw [e]
    exact ⟨[r], ⟨rfl, rfl⟩, by simp [rowOf, gr]⟩
set_option maxHeartbeats 400000
theorem nth_setG {α : Type} [Inhabited α] {l : List α} {i k : Nat} {a : α} (hi : i < l.length) : nth (l.set i a) k = if k = i then a else nth l k := by
 unfold nth
 rw [List.getD_eq_getElem?_getD, List.getD_eq_getElem?_getD, List.getElem?_set]
 by_cases h : i = k
 ·subst h; simp [hi]
 ·have h' : ¬ k = i := fun e => h e.symm
  simp [h, h']
theorem nth_app_lt {α : Type} [Inhabited α] {l m : List α} {i : Nat} (h : i < l.length) : nth (l ++ m) i = nth l i := by
 rw [nth_eq (by simp; omega), nth_eq h, List.getElem_append_left h]
theorem nth_app_eq {α : Type} [Inhabited α] {l : List α} {a : α} {m : List α} : nth (l ++ a :: m) l.length = a := by
 rw [nth_eq (by simp), List.getElem_append_right (Nat.le_refl _)]; simp
structure Good (t : List Pl) : Prop where
 le : t.length ≤ 200
 pos : 0 < t.length
 root : nth t 0 = rootP
 par : ∀ j, 1 ≤ j → j < t.length → 0 ≤ parN t j ∧ parN t j < j
 right : ∀ j, 1 ≤ j → j < t.length → rightF (nth t j).name (nth t j).ver = true
 uniq : ∀ j k, 1 ≤ j → j < k → k < t.length → parN t j = parN t k → (nth t j).name = (nth t k).name → False
 high : ∀ j, 1 ≤ j → j < t.length → (upN t j).length ≤ 13
theorem dn_of {t : List Pl} (h0 : parN t 0 = -1) (hp : ∀ j, 1 ≤ j → j < t.length → 0 ≤ parN t j ∧ parN t j < j) : Dn t := by
 intro i hi
 rcases Nat.eq_zero_or_pos i with rfl | h
 ·rw [h0]; omega
 ·exact (hp i h hi).2
theorem root_par {t : List Pl} (h : nth t 0 = rootP) : parN t 0 = -1 := by rw [parN, h]; rfl
theorem Good.dn {t : List Pl} (g : Good t) : Dn t := dn_of (root_par g.root) g.par
theorem up_zero {t : List Pl} (h0 : parN t 0 = -1) : upN t 0 = [0] := by
 unfold upN
 rw [upF, if_pos (by omega)]
theorem dD_val {t : List Pl} (h0 : parN t 0 = -1) (hp : ∀ j, 1 ≤ j → j < t.length → 0 ≤ parN t j ∧ parN t j < j) : ∀ i, i < t.length → ∀ j, j ≤ i → nth (dD t i) j + 1 = ((upN t j).length : Int)
 | 0, hi, j, hj => by
  have : j = 0 := by omega
  subst this
  rw [up_zero h0, dD, nth_eq (by simpa using hi)]
  simp
 | i + 1, hi, j, hj => by
  have ih := dD_val h0 hp i (by omega)
  rw [dD, nth_setG (by rw [dD_len]; exact hi), nth_tail hi]
  by_cases h : j = i + 1
  ·subst h
   obtain ⟨h1, h2⟩ := hp (i + 1) (by omega) hi
   have hq : (nth t (i + 1)).par = parN t (i + 1) := rfl
   rw [if_pos rfl, hq, ih _ (by omega), up_step (dn_of h0 hp) hi, if_neg (by omega)]
   simp
  ·rw [if_neg h]
   exact ih j (by omega)
theorem mem_keys {t : List Pl} {i : Nat} (h : i < t.length) {k : Key} : k ∈ keysTo t i ↔ ∃ j, 1 ≤ j ∧ j ≤ i ∧ keyP (nth t j) = k := by
 unfold keysTo
 rw [List.mem_map]
 constructor
 ·rintro ⟨p, hp, rfl⟩
  obtain ⟨j, hj, rfl⟩ := List.mem_iff_getElem.1 hp
  rw [List.length_take, List.length_tail] at hj
  refine ⟨j + 1, by omega, by omega, ?_⟩
  rw [List.getElem_take, nth_eq (by omega)]
  simp
 ·rintro ⟨j, h1, h2, rfl⟩
  obtain ⟨j, rfl⟩ : ∃ m, j = m + 1 := ⟨j - 1, by omega⟩
  refine ⟨nth t (j + 1), List.mem_iff_getElem.2 ⟨j, by rw [List.length_take, List.length_tail]; omega, ?_⟩, rfl⟩
  rw [List.getElem_take, nth_eq (by omega)]
  simp
theorem okAt_iff {t : List Pl} {i : Nat} (h : i + 1 < t.length) : okAt t i = true ↔ (0 ≤ parN t (i + 1) ∧ parN t (i + 1) ≤ i) ∧ rightF (nth t (i + 1)).name (nth t (i + 1)).ver = true ∧
  (∀ j, 1 ≤ j → j ≤ i → parN t j = parN t (i + 1) → (nth t j).name = (nth t (i + 1)).name → False) ∧ nth (dD t i) (parN t (i + 1)).toNat + 1 ≤ 12 := by
 have hk : keyP (nth t (i + 1)) ∉ keysTo t i ↔ (∀ j, 1 ≤ j → j ≤ i → parN t j = parN t (i + 1) → (nth t j).name = (nth t (i + 1)).name → False) := by
  rw [mem_keys (by omega)]
  constructor
  ·intro h j h1 h2 h3 h4
   refine h ⟨j, h1, h2, ?_⟩
   unfold keyP
   rw [h4]
   exact congrArg (Key.mk · _) h3
  ·rintro h ⟨j, h1, h2, h3⟩
   unfold keyP at h3
   injection h3 with h3 h4
   exact h j h1 h2 h3 h4
 simp only [okAt, Bool.and_eq_true, decide_eq_true_eq, nth_tail h, hk]
 exact ⟨fun ⟨a, b, c, d, e⟩ => ⟨⟨a, b⟩, c, d, e⟩, fun ⟨⟨a, b⟩, c, d, e⟩ => ⟨a, b, c, d, e⟩⟩
theorem check_iff {t : List Pl} : checkN t = 0 ↔ Good t := by
 constructor
 ·intro h
  obtain ⟨h1, h2, h3, h4⟩ := check_good h
  have h0 := root_par h3
  have hp : ∀ j, 1 ≤ j → j < t.length → 0 ≤ parN t j ∧ parN t j < j := fun j hj hl => by
   obtain ⟨j, rfl⟩ : ∃ m, j = m + 1 := ⟨j - 1, by omega⟩
   have := ((okAt_iff hl).1 (h4 j hl)).1
   omega
  refine ⟨h1, List.length_pos_iff.2 h2, h3, hp, fun j hj hl => ?_, fun j k h1 h2 h3 => ?_, fun j hj hl => ?_⟩
  ·obtain ⟨j, rfl⟩ : ∃ m, j = m + 1 := ⟨j - 1, by omega⟩
   exact ((okAt_iff hl).1 (h4 j hl)).2.1
  ·obtain ⟨k, rfl⟩ : ∃ m, k = m + 1 := ⟨k - 1, by omega⟩
   exact ((okAt_iff h3).1 (h4 k h3)).2.2.1 j h1 (by omega)
  ·obtain ⟨j, rfl⟩ : ∃ m, j = m + 1 := ⟨j - 1, by omega⟩
   have := ((okAt_iff hl).1 (h4 j hl)).2.2.2
   have hq := hp (j + 1) hj hl
   rw [dD_val h0 hp j (by omega) _ (by omega)] at this
   rw [up_step (dn_of h0 hp) hl, if_neg (by omega)]
   simp; omega
 ·intro g
  have h0 := root_par g.root
  unfold checkN
  rw [if_neg (by have := g.le; omega), if_neg (by simp [g.root, List.ne_nil_of_length_pos g.pos]), if_pos]
  unfold treeOk
  rw [List.all_eq_true]
  intro j hj
  have hl : j + 1 < t.length := by
   have := List.mem_range.1 hj
   rw [List.length_tail] at this; omega
  have hq := g.par (j + 1) (by omega) hl
  refine (okAt_iff hl).2 ⟨by omega, g.right _ (by omega) hl, fun k h1 h2 => g.uniq k (j + 1) h1 (by omega) hl, ?_⟩
  rw [dD_val h0 g.par j (by omega) _ (by omega)]
  have := g.high (j + 1) (by omega) hl
  rw [up_step g.dn hl, if_neg (by omega)] at this
  simp at this; omega
theorem holds_iff {t : List Pl} {i : Int} : holdsF t i = true ↔ Good t ∧ 0 ≤ i ∧ i < t.length := by
 simp [holdsF, check_iff]
-- children
theorem chF_some {t : List Pl} {p : Int} {b : Bs} {k : Nat} (h : chF t p b = some k) : k < t.length ∧ parN t k = p ∧ (nth t k).name = b := by
 unfold chF at h
 rw [List.findIdx?_eq_some_iff_getElem] at h
 obtain ⟨h1, h2, _⟩ := h
 rw [← nth_eq h1] at h2
 have := of_decide_eq_true h2
 exact ⟨h1, this⟩
theorem chF_none {t : List Pl} {p : Int} {b : Bs} : chF t p b = none ↔ ∀ k, k < t.length → parN t k = p → (nth t k).name = b → False := by
 unfold chF
 rw [List.findIdx?_eq_none_iff]
 constructor
 ·intro h k hk h1 h2
  have := h _ (nth_mem hk)
  simp only [chP, decide_eq_false_iff_not] at this
  exact this ⟨h1, h2⟩
 ·intro h p hp
  obtain ⟨k, hk, rfl⟩ := List.mem_iff_getElem.1 hp
  rw [← nth_eq hk]
  simp only [chP, decide_eq_false_iff_not]
  exact fun ⟨h1, h2⟩ => h k hk h1 h2
theorem Good.child {t : List Pl} (g : Good t) {p : Int} (hp : 0 ≤ p) {b : Bs} {k : Nat} (hk : k < t.length) (h1 : parN t k = p) (h2 : (nth t k).name = b) : chF t p b = some k := by
 cases h : chF t p b with
 | none => exact (chF_none.1 h k hk h1 h2).elim
 | some j =>
  obtain ⟨a1, a2, a3⟩ := chF_some h
  have h0 := root_par g.root
  have hj : 1 ≤ j := by
   rcases Nat.eq_zero_or_pos j with rfl | h
   ·omega
   ·exact h
  have hk1 : 1 ≤ k := by
   rcases Nat.eq_zero_or_pos k with rfl | h
   ·omega
   ·exact h
  rcases Nat.lt_trichotomy j k with hl | rfl | hl
  ·exact (g.uniq j k hj hl hk (by rw [a2, h1]) (by rw [a3, h2])).elim
  ·rfl
  ·exact (g.uniq k j hk1 hl a1 (by rw [a2, h1]) (by rw [a3, h2])).elim
-- a place is added
section
variable {t : List Pl} {i : Int} {b : Bs} {v : Ver}
theorem res_at {i : Nat} (hh : Good t) (hi : i < t.length) {k : Nat} (hc : chF t i b = some k) : resolveN t i b = k := by
 have h : holdsF t i = true := holds_iff.2 ⟨hh, by omega, by omega⟩
 rw [resolveN, h, if_pos rfl, Int.toNat_natCast, up_step hh.dn hi, resL, hc]
theorem res_up {i : Nat} (hh : Good t) (hi : i < t.length) (hc : chF t i b = none) (hp : 0 ≤ parN t i) : resolveN t i b = resolveN t (parN t i) b := by
 have h : holdsF t i = true := holds_iff.2 ⟨hh, by omega, by omega⟩
 have := hh.dn i hi
 have h2 : holdsF t (parN t i) = true := holds_iff.2 ⟨hh, by omega, by omega⟩
 rw [resolveN, h, if_pos rfl, Int.toNat_natCast, up_step hh.dn hi, resL, hc, if_neg (by omega)]
 rw [resolveN, h2, if_pos rfl]
theorem res_root (hh : Good t) {i : Nat} (hi : i < t.length) (hc : chF t i b = none) (hp : parN t i < 0) : resolveN t i b = -1 := by
 have h : holdsF t i = true := holds_iff.2 ⟨hh, by omega, by omega⟩
 rw [resolveN, h, if_pos rfl, Int.toNat_natCast, up_step hh.dn hi, resL, hc, if_pos hp]; rfl
end
end Go.Proofs.YtgipehooceecpaaGreatDoorAbs
