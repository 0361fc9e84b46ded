/- parts of the proof, merged: NmQ -/
import Derived.Test.YtjjgbillihedgaaGreatDoorQy13
set_option maxHeartbeats 32000000
set_option maxRecDepth 100000
namespace Go.Proofs.YtjjgbillihedgaaGreatDoor
open Go.RowKit
open Rf
open Wide
theorem rp_e0 (s : ByteArray) (h0 : s.size = 0) : wRet 108 #[.string s] (.tuple #[wv zero, .int .i64 4]) := fun w => by
 obtain rfl : s = ⟨#[]⟩ := by
  have : byts s = [] := List.eq_nil_of_length_eq_zero (by rw [byts_length, h0])
  exact byts_inj (by rw [this]; rfl)
 have gz0 : IsN (w.alloc (oN zero)) w.heap.size zero := IsN.new w zero
 have hb0 := wbelow1 w (oN zero)
 obtain ⟨z0, z1, z2⟩ := gz0.all
 have fz := gz0.f
 dsimp only [zero] at z0 z1 z2
 clear gz0 h0
 go_enter Tryz.func108, Tryz.ntmps108
 go_wp2_with fail
 (try simp only [Exit.inBlock, Exit.then])
 refine bodyPost_ret (by simp [results, Tryz.results108, go_sem]; try rfl) rfl ?_
 exact ⟨rfl, hb0⟩
theorem isDigs_of {D : List UInt8} (h : D.all isDig = true) (hne : D ≠ []) : isDigs D = true := by
 unfold isDigs
 rw [h]
 cases D with
 | nil => exact absurd rfl hne
 | cons _ _ => rfl
theorem isDigs_no {D : List UInt8} (h : D.all isDig = false) : isDigs D = false := by unfold isDigs; rw [h, Bool.and_false]
theorem valD_pos {D : List UInt8} (h : D.all isDig = true) (hne : D ≠ []) (h0 : D.head? ≠ some 48) : 0 < valD D := by
 cases D with
 | nil => exact absurd rfl hne
 | cons c r =>
   have h1 := valD_le [c] r
   have h2 : isDig c = true := List.all_eq_true.1 h c (List.mem_cons_self ..)
   have h3 : valD [c] = c.toNat - 48 := by unfold valD; simp
   have h4 : c ≠ 48 := fun hc => h0 (by rw [hc]; rfl)
   have h5 : c.toNat ≠ 48 := fun hc => h4 (UInt8.toNat_inj.1 (by rw [hc]; rfl))
   unfold isDig at h2
   simp at h2
   have e : [c] ++ r = c :: r := rfl
   rw [e] at h1
   omega
section
variable {l : List UInt8} (hok : ¬ ((digOf l).head? = some 48 ∧ l ≠ [48])) (hne : digOf l ≠ [])
include hok hne
omit hok hne in
theorem pf_bad (h : (digOf l).all isDig = false) : parseF l = (zero, 4) := if_pos (.inl (isDigs_no h))
theorem pf_long (h : (digOf l).all isDig = true) (h2 : 39 < (digOf l).length) : parseF l = (zero, 3) := by
 unfold parseF
 rw [if_neg (fun hh => hh.elim (fun hx => by rw [isDigs_of h hne] at hx; cases hx) hok), if_pos h2]
theorem pf_over (h : (digOf l).all isDig = true) (h2 : (digOf l).length ≤ 39) (h3 : ¬ valD (digOf l) < 170141183460469231731687303715884105728) : parseF l = (zero, 3) := by
 unfold parseF
 rw [if_neg (fun hh => hh.elim (fun hx => by rw [isDigs_of h hne] at hx; cases hx) hok), if_neg (by omega), if_neg h3]
theorem pf_ok (ng : Bool) (hng : decide (l.head? = some 45) = ng) (hpos : ng = true → (digOf l).head? ≠ some 48) (h : (digOf l).all isDig = true) (h2 : (digOf l).length ≤ 39) (h3 : valD (digOf l) < 170141183460469231731687303715884105728) :
 parseF l = (⟨ng, (nw (valD (digOf l))).h, (nw (valD (digOf l))).l⟩, 0) := by
 unfold parseF
 rw [if_neg (fun hh => hh.elim (fun hx => by rw [isDigs_of h hne] at hx; cases hx) hok), if_neg (by omega), if_pos h3, hng]
 rw [← made_nw ng (valD (digOf l))]
 unfold made
 congr 2
 cases ng with
 | false => rfl
 | true =>
   have h4 := valD_pos h hne (hpos rfl)
   have h5 : nil2 (nw (valD (digOf l))).h (nw (valD (digOf l))).l = false := by
    cases h6 : nil2 (nw (valD (digOf l))).h (nw (valD (digOf l))).l with
    | false => rfl
    | true =>
      have h7 := (sz_zero (nw_ok (Nat.lt_trans h3 (by decide)))).2 h6
      rw [nw_sz] at h7
      omega
   rw [h5]
   rfl
end
theorem byts_get (T : ByteArray) (h : 0 < T.size) : (byts T).head? = some T[0] := head_of rfl h
theorem eq48 (c : UInt8) : ((c.toNat : Int) == 48) = true ↔ c = 48 := by
 rw [beq_iff_eq]
 exact ⟨fun h => UInt8.toNat_inj.1 (by have : (48 : UInt8).toNat = 48 := rfl; omega), fun h => by rw [h]; rfl⟩
theorem eq45 (c : UInt8) : ((c.toNat : Int) == 45) = true ↔ c = 45 := by
 rw [beq_iff_eq]
 exact ⟨fun h => UInt8.toNat_inj.1 (by have : (45 : UInt8).toNat = 45 := rfl; omega), fun h => by rw [h]; rfl⟩
theorem str48 (s : ByteArray) : (s.toList == [48]) = decide (byts s = [48]) := by
 rw [toList_byts]
 cases h : decide (byts s = [48]) with
 | true => rw [of_decide_eq_true h]; rfl
 | false => exact beq_eq_false_iff_ne.2 (of_decide_eq_false h)
theorem tail_bytes (s : ByteArray) : byts (s.extract 1 s.size) = (byts s).tail := by
 unfold byts
 rw [ByteArray.data_extract]
 simp
 refine List.take_of_length_le ?_
 rw [List.length_tail]
 have : s.data.toList.length = s.size := byts_length s
 omega
/-- the number of a text, digit by digit -/
theorem wrefParse_c (s : ByteArray) (hs : s.size ≤ 100000) : wRet 108 #[.string s] (.tuple #[wv (parseF (byts s)).1, .int .i64 (parseF (byts s)).2]) := by
 by_cases h0 : s.size = 0
 ·have : byts s = [] := List.eq_nil_of_length_eq_zero (by rw [byts_length, h0])
  rw [this]
  exact rp_e0 s h0
 ·have hp : 0 < s.size := by omega
  have hhd := byts_get s hp
  cases hm : ((s[0].toNat : Int) == 45) with
  | true =>
    have hc := (eq45 _).1 hm
    rw [hc] at hhd
    have hD : digOf (byts s) = byts (s.extract 1 s.size) := by
     rw [tail_bytes]
     unfold digOf
     rw [if_pos hhd]
    obtain ⟨T, hT⟩ : ∃ T, s.extract 1 s.size = T := ⟨_, rfl⟩
    rw [hT] at hD
    have hTs : T.size = (digOf (byts s)).length := by rw [hD, byts_length]
    have hT100 : T.size ≤ 100000 := by
     have h1 := congrArg List.length (tail_bytes s)
     rw [hT, byts_length, List.length_tail, byts_length] at h1
     omega
    have hn1 : decide ((byts s).head? = some 45) = true := decide_eq_true hhd
    have hne1 : byts s ≠ [48] := fun h => by rw [h] at hhd; cases hhd
    by_cases hT0 : T.size = 0
    ·have : digOf (byts s) = [] := List.eq_nil_of_length_eq_zero (by omega)
     rw [show parseF (byts s) = (zero, 4) from if_pos (.inl (by rw [this]; rfl))]
     exact rp_te s hp hs hm T hT hT0
    ·have hTp : 0 < T.size := by omega
     have hTh := byts_get T hTp
     rw [← hD] at hTh
     cases hz : ((T[0].toNat : Int) == 48) with
     | true =>
       rw [(eq48 _).1 hz] at hTh
       rw [show parseF (byts s) = (zero, 4) from if_pos (.inr ⟨hTh, hne1⟩)]
       exact rp_tz s hp hs hm T hT hTp hz (by rw [str48, decide_eq_false hne1])
     | false =>
       have hTn : (digOf (byts s)).head? ≠ some 48 := fun h => by
        rw [hTh] at h
        have := (eq48 T[0]).2 (Option.some.inj h)
        rw [this] at hz
        cases hz
       have hne : digOf (byts s) ≠ [] := fun h => by rw [h] at hTs; exact hT0 hTs
       have hok : ¬ ((digOf (byts s)).head? = some 48 ∧ byts s ≠ [48]) := fun h => hTn h.1
       exact rp_h s hp hs T (digOf (byts s)) hD.symm hTs hTp true (.inl ⟨rfl, hm, hT, hz⟩) (parseF (byts s)) hT100 pf_bad (pf_long hok hne) (pf_over hok hne) (pf_ok hok hne true hn1 (fun _ => hTn))
  | false =>
    have hc : s[0] ≠ 45 := fun h => by rw [(eq45 _).2 h] at hm; cases hm
    have hn1 : (byts s).head? ≠ some 45 := fun h => by rw [hhd] at h; exact hc (Option.some.inj h)
    have hD : digOf (byts s) = byts s := if_neg hn1
    have hTs : s.size = (digOf (byts s)).length := by rw [hD, byts_length]
    have hne : digOf (byts s) ≠ [] := fun h => by rw [h] at hTs; exact h0 hTs
    cases hz : ((s[0].toNat : Int) == 48) with
    | true =>
      rw [(eq48 _).1 hz] at hhd
      by_cases h48 : byts s = [48]
      ·exact rp_h s hp hs s (digOf (byts s)) hD.symm hTs hp false (.inr ⟨rfl, hm, rfl, .inr ⟨hz, by rw [str48, decide_eq_true h48]⟩⟩) (parseF (byts s)) hs pf_bad (pf_long (fun h => h.2 h48) hne) (pf_over (fun h => h.2 h48) hne) (pf_ok (fun h => h.2 h48) hne false (decide_eq_false hn1) (fun h => by cases h))
      ·rw [show parseF (byts s) = (zero, 4) from if_pos (.inr ⟨by rw [hD]; exact hhd, h48⟩)]
       exact rp_fz s hp hs hm hz (by rw [str48, decide_eq_false h48])
    | false =>
      have hTn : (digOf (byts s)).head? ≠ some 48 := fun h => by
       rw [hD, hhd] at h
       have := (eq48 s[0]).2 (Option.some.inj h)
       rw [this] at hz
       cases hz
      have hok : ¬ ((digOf (byts s)).head? = some 48 ∧ byts s ≠ [48]) := fun h => hTn h.1
      exact rp_h s hp hs s (digOf (byts s)) hD.symm hTs hp false (.inr ⟨rfl, hm, rfl, .inl hz⟩) (parseF (byts s)) hs pf_bad (pf_long hok hne) (pf_over hok hne) (pf_ok hok hne false (decide_eq_false hn1) (fun h => by cases h))
theorem rtext_f (x : WI) (hf : x.form = false) : wRet 68 #[wv x] (.string (text [])) := fun w => by
 have c1 : wRet 61 #[wv x] (.bool x.form) := fun w => good_c x w
 rw [hf] at c1
 clear hf
 obtain ⟨xn, xh, xl⟩ := x
 unfold wv at *
 dsimp only at *
 replace c1 := Hd c1
 go_enter Tryz.func68, Tryz.ntmps68
 go_wp2_with fail
 refine (c1.out.on _).mono ?_
 rintro e w1 ⟨rfl, hbr⟩
 obtain ⟨gx, hb⟩ := one_new (x := ⟨xn, xh, xl⟩) hbr
 clear hbr gx
 replace hb := Hd hb
 go_wp2_with fail
 go_ret
 exact ⟨rfl, hb.out⟩
theorem wrefText_c (x : WI) (ho : x.Ok) : wRet 68 #[wv x] (.string (text (textF x))) := by
 unfold textF
 cases hf : x.form
 ·exact rtext_f x hf
 ·exact rtext_t x ho hf
end Go.Proofs.YtjjgbillihedgaaGreatDoor
