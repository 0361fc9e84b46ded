/- parts of the proof, merged: WvF -/
import Derived.Test.YtjjgbillihedgaaGreatDoorQy7
set_option maxHeartbeats 2000000
set_option maxRecDepth 10000
namespace Go.Proofs.YtjjgbillihedgaaGreatDoor
open Go.RowKit
open Rf
open Wide
theorem parse_bad1 (s : ByteArray) (T : ByteArray)
 (ct : ∀ w, Calls Tryz.prog 148 #[.string s, .string ⟨#[45]⟩] w fun e w' => e = .returned (.string T) ∧ w' = w)
 (ci : ∀ w, Calls Tryz.prog 149 #[.string T] w fun e w' => e = .returned (.bool false) ∧ Below w.heap.size w w') (w : World) :
 Calls Tryz.prog 129 #[.string s] w fun e w' => e = .returned (.tuple #[wv zero, .int .i64 4]) ∧ Below w.heap.size w w' := by
 replace ct := Hd ct
 replace ci := Hd ci
 unfold wv zero
 dsimp only
 go_enter Tryz.func129, Tryz.ntmps129
 go_wp2_with fail
 refine (ct.out _).mono ?_
 rintro e w1 ⟨rfl, rfl⟩
 go_wp2_with fail
 refine (ci.out _).mono ?_
 rintro e w2 ⟨rfl, hb2⟩
 obtain ⟨gz, hb⟩ := one_new (x := ⟨false, 0, 0⟩) hb2
 obtain ⟨z0, z1, z2⟩ := gz.all
 have zf := gz.f
 obtain ⟨t0, t1, t2, hfin⟩ := last_set (w := w) (B := w.heap.size) gz ⟨false, 0, 0⟩ hb (Nat.le_refl _)
 dsimp only at t0 t1 t2 z0 z1 z2 hfin
 replace hfin := Hd hfin
 clear gz hb hb2
 go_wp2_with fail
 (try simp only [Exit.inBlock, Exit.then])
 refine bodyPost_ret (by simp [results, Tryz.results129, go_sem, t0, t1, t2]; try rfl) rfl ?_
 exact ⟨rfl, hfin.out⟩
theorem parse_bad2 (s : ByteArray) (T : ByteArray)
 (ct : ∀ w, Calls Tryz.prog 148 #[.string s, .string ⟨#[45]⟩] w fun e w' => e = .returned (.string T) ∧ w' = w)
 (ci : ∀ w, Calls Tryz.prog 149 #[.string T] w fun e w' => e = .returned (.bool true) ∧ Below w.heap.size w w')
 (hl0 : 0 < T.size) (h0 : (T[0].toNat : Int) = 48) (h48 : (!s.toList == [48]) = true) (w : World) :
 Calls Tryz.prog 129 #[.string s] w fun e w' => e = .returned (.tuple #[wv zero, .int .i64 4]) ∧ Below w.heap.size w w' := by
 replace ct := Hd ct
 replace ci := Hd ci
 unfold wv zero
 dsimp only
 go_enter Tryz.func129, Tryz.ntmps129
 go_wp2_with fail
 refine (ct.out _).mono ?_
 rintro e w1 ⟨rfl, rfl⟩
 go_wp2_with fail
 refine (ci.out _).mono ?_
 rintro e w2 ⟨rfl, hb2⟩
 obtain ⟨gz, hb⟩ := one_new (x := ⟨false, 0, 0⟩) hb2
 obtain ⟨z0, z1, z2⟩ := gz.all
 have zf := gz.f
 obtain ⟨t0, t1, t2, hfin⟩ := last_set (w := w) (B := w.heap.size) gz ⟨false, 0, 0⟩ hb (Nat.le_refl _)
 dsimp only at t0 t1 t2 z0 z1 z2 hfin
 replace hfin := Hd hfin
 clear gz hb hb2
 go_wp2_with fail
 (try simp only [Exit.inBlock, Exit.then])
 refine bodyPost_ret (by simp [results, Tryz.results129, go_sem, t0, t1, t2]; try rfl) rfl ?_
 exact ⟨rfl, hfin.out⟩
theorem parse_long (s : ByteArray) (T : ByteArray)
 (ct : ∀ w, Calls Tryz.prog 148 #[.string s, .string ⟨#[45]⟩] w fun e w' => e = .returned (.string T) ∧ w' = w)
 (ci : ∀ w, Calls Tryz.prog 149 #[.string T] w fun e w' => e = .returned (.bool true) ∧ Below w.heap.size w w')
 (hl : 39 < T.size) (h0 : ¬ (T[0].toNat : Int) = 48 ∨ (!s.toList == [48]) = false) (w : World) :
 Calls Tryz.prog 129 #[.string s] w fun e w' => e = .returned (.tuple #[wv zero, .int .i64 3]) ∧ Below w.heap.size w w' := by
 replace ct := Hd ct
 replace ci := Hd ci
 have hl0 : 0 < T.size := by omega
 unfold wv zero
 dsimp only
 by_cases hz : (T[0].toNat : Int) = 48
 ·replace h0 := h0.resolve_left (fun h => h hz)
  go_enter Tryz.func129, Tryz.ntmps129
  go_wp2_with fail
  refine (ct.out _).mono ?_
  rintro e w1 ⟨rfl, rfl⟩
  go_wp2_with fail
  refine (ci.out _).mono ?_
  rintro e w2 ⟨rfl, hb2⟩
  obtain ⟨gz, hb⟩ := one_new (x := ⟨false, 0, 0⟩) hb2
  obtain ⟨z0, z1, z2⟩ := gz.all
  have zf := gz.f
  obtain ⟨t0, t1, t2, hfin⟩ := last_set (w := w) (B := w.heap.size) gz ⟨false, 0, 0⟩ hb (Nat.le_refl _)
  dsimp only at t0 t1 t2 z0 z1 z2 hfin
  replace hfin := Hd hfin
  clear gz hb hb2
  go_wp2_with fail
  (try simp only [Exit.inBlock, Exit.then])
  refine bodyPost_ret (by simp [results, Tryz.results129, go_sem, t0, t1, t2]; try rfl) rfl ?_
  exact ⟨rfl, hfin.out⟩
 ·clear h0
  have hz' : ((T[0].toNat : Int) == 48) = false := by simpa using hz
  go_enter Tryz.func129, Tryz.ntmps129
  go_wp2_with fail
  refine (ct.out _).mono ?_
  rintro e w1 ⟨rfl, rfl⟩
  go_wp2_with fail
  refine (ci.out _).mono ?_
  rintro e w2 ⟨rfl, hb2⟩
  obtain ⟨gz, hb⟩ := one_new (x := ⟨false, 0, 0⟩) hb2
  obtain ⟨z0, z1, z2⟩ := gz.all
  have zf := gz.f
  obtain ⟨t0, t1, t2, hfin⟩ := last_set (w := w) (B := w.heap.size) gz ⟨false, 0, 0⟩ hb (Nat.le_refl _)
  dsimp only at t0 t1 t2 z0 z1 z2 hfin
  replace hfin := Hd hfin
  clear gz hb hb2
  go_wp2_with fail
  (try simp only [Exit.inBlock, Exit.then])
  refine bodyPost_ret (by simp [results, Tryz.results129, go_sem, t0, t1, t2]; try rfl) rfl ?_
  exact ⟨rfl, hfin.out⟩
theorem head_of {T : ByteArray} {D : List UInt8} (hT : byts T = D) (h : 0 < T.size) : D.head? = some T[0] := by
 subst hT
 have e : byts T = T.data.toList := rfl
 rw [e, List.head?_eq_getElem?]
 have : 0 < T.data.toList.length := by simpa using h
 rw [List.getElem?_eq_getElem this]
 rfl
/-- the number of a text -/
theorem wparse_c (s : ByteArray) (hs : s.size ≤ maxLen) (w : World) : Calls Tryz.prog 129 #[.string s] w fun e w' => e = .returned (.tuple #[wv (parseF (byts s)).1, .int .i64 (parseF (byts s)).2]) ∧ Below w.heap.size w w' := by
 obtain ⟨D, hD⟩ : ∃ D, digOf (byts s) = D := ⟨_, rfl⟩
 have ct : ∀ w, Calls Tryz.prog 148 #[.string s, .string ⟨#[45]⟩] w fun e w' => e = .returned (.string (text D)) ∧ w' = w := by
  intro w
  have h := Go.Proofs.Any.strings_TrimPrefix Tryz.lays101 s ⟨#[45]⟩ w
  have e : Lib.trimPrefix s.data.toList (⟨#[45]⟩ : ByteArray).data.toList = D := by
   show Lib.trimPrefix (byts s) [45] = D
   rw [trimPrefix_dig, hD]
  rw [e] at h
  exact h
 have hDl : D.length ≤ s.size := by
  rw [← hD, ← byts_length]
  unfold digOf
  split
  ·rw [List.length_tail]; omega
  ·exact Nat.le_refl _
 have ci := fun w => isDigits_c (text D) (by rw [text_size]; omega) w
 rw [byts_text] at ci
 have hng := digOf_lt (byts s)
 rw [hD, byts_length, ← text_size D] at hng
 have hTD : byts (text D) = D := byts_text D
 have hsz := text_size D
 unfold parseF
 rw [hD]
 generalize text D = T at *
 by_cases h1 : isDigs D = false
 ·rw [if_pos (.inl h1)]
  rw [h1] at ci
  exact parse_bad1 s T ct ci w
 ·have h1' : isDigs D = true := by simpa using h1
  rw [h1'] at ci
  have hall : D.all isDig = true ∧ D ≠ [] := by
   unfold isDigs at h1'
   rw [Bool.and_eq_true] at h1'
   refine ⟨h1'.2, fun h => ?_⟩
   rw [h] at h1'
   cases h1'.1
  have hpos : 0 < T.size := by
   rw [hsz]
   exact List.length_pos_iff.2 hall.2
  have hhd := head_of hTD hpos
  have hbyte : ∀ c : UInt8, (c.toNat : Int) = 48 ↔ c = 48 := fun c => ⟨fun h => UInt8.toNat_inj.1 (by have : (48 : UInt8).toNat = 48 := rfl; omega), fun h => by rw [h]; rfl⟩
  have hstr : (s.toList == [48]) = decide (byts s = [48]) := by
   rw [toList_byts]
   cases h : decide (byts s = [48]) with
   | true => rw [of_decide_eq_true h]; rfl
   | false => exact beq_eq_false_iff_ne.2 (of_decide_eq_false h)
  by_cases h2 : D.head? = some 48 ∧ byts s ≠ [48]
  ·rw [if_pos (.inr h2)]
   refine parse_bad2 s T ct ci hpos ((hbyte _).2 ?_) (by rw [hstr, decide_eq_false h2.2]; rfl) w
   have := h2.1
   rw [hhd] at this
   exact Option.some.inj this
  ·rw [if_neg (fun h => h.elim h1 h2)]
   have h48 : ((T[0].toNat : Int) == 48) = true → (s.toList == [48]) = true := by
    intro h
    have hc : T[0] = 48 := (hbyte _).1 (by simpa using h)
    rw [hstr]
    exact decide_eq_true (Classical.byContradiction fun hh => h2 ⟨by rw [hhd, hc], hh⟩)
   by_cases h3 : 39 < D.length
   ·rw [if_pos h3]
    refine parse_long s T ct ci (by omega) ?_ w
    by_cases hz : (T[0].toNat : Int) = 48
    ·exact .inr (by rw [h48 (by simpa using hz)]; rfl)
    ·exact .inl hz
   ·rw [if_neg h3]
    by_cases hz : (T[0].toNat : Int) = 48
    ·exact parse_ok s D T _ hTD hall.1 hpos (by omega) ct ci hng (.inl ⟨hz, by rw [h48 (by simpa using hz)]; rfl⟩) _ _ (fun h => by rw [if_pos h]; exact ⟨rfl, rfl⟩) (fun h => by rw [if_neg h]; exact ⟨rfl, rfl⟩) w
    ·exact parse_ok s D T _ hTD hall.1 hpos (by omega) ct ci hng (.inr (by simpa using hz)) _ _ (fun h => by rw [if_pos h]; exact ⟨rfl, rfl⟩) (fun h => by rw [if_neg h]; exact ⟨rfl, rfl⟩) w
end Go.Proofs.YtjjgbillihedgaaGreatDoor
