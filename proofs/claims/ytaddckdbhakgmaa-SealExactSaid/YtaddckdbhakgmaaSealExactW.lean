/- the walk of SealExact -/
import Derived.Test.YtaddckdbhakgmaaSealLaw
namespace Go.Proofs.Ytaddckdbhakgmaa
open Go.RowKit
open Rf

theorem below_chain5 {w w1 w2 w3 w4 w5 : World} (h1 : Below w.heap.size w w1) (h2 : Below w1.heap.size w1 w2) (h3 : Below w2.heap.size w2 w3) (h4 : Below w3.heap.size w3 w4) (h5 : Below w4.heap.size w4 w5) : Below w.heap.size w w5 := by
  have a := h1.size; have b := h2.size; have c := h3.size; have d := h4.size
  exact h1.trans ((h2.mono a).trans ((h3.mono (by omega)).trans ((h4.mono (by omega)).trans (h5.mono (by omega)))))

set_option maxHeartbeats 400000 in
theorem sealExact_big (a b : ByteArray) (ha : a.size ≤ maxLen) (hb : b.size ≤ maxLen) (h : 4096 < a.size ∨ 4096 < b.size) (w : World) :
    Calls Try.prog 3 #[.string a, .string b] w fun e w' => e = .returned (.bool true) ∧ Below w.heap.size w w' := by
  unfold maxLen at ha hb
  by_cases h1 : 4096 < a.size
  · go_enter Try.func3, Try.ntmps3
    go_wp2_with fail
    refine (awake3_c _).mono ?_
    rintro e w1 ⟨rfl, hb1⟩
    go_wp2_with fail
    go_ret
    exact ⟨rfl, hb1⟩
  · have h2 : 4096 < b.size := by omega
    go_enter Try.func3, Try.ntmps3
    go_wp2_with fail
    refine (awake3_c _).mono ?_
    rintro e w1 ⟨rfl, hb1⟩
    go_wp2_with fail
    go_ret
    exact ⟨rfl, hb1⟩

set_option maxHeartbeats 400000 in
theorem sealExact_small (a b : ByteArray) (ha : a.size ≤ 4096) (hb : b.size ≤ 4096) (w : World) :
    Calls Try.prog 3 #[.string a, .string b] w fun e w' => e = .returned (.bool true) ∧ Below w.heap.size w w' := by
  have ha' : a.size ≤ maxLen := by unfold maxLen; omega
  have hb' : b.size ≤ maxLen := by unfold maxLen; omega
  have hab : (a ++ b).size ≤ maxLen := by unfold maxLen; simp; omega
  have e0 : Adler.more (Adler.sum (byts a)) (byts b) = Adler.sum (byts (a ++ b)) := by rw [byts_append]; exact Adler.sum_append _ _
  have e1 := Lib.hid e0
  clear e0
  obtain ⟨q0, q1⟩ : 0 ≤ Adler.sum (byts a) ∧ Adler.sum (byts a) ≤ 4294967295 := Adler.more_bd 1 (byts a)
  by_cases hm : ∃ m, stampF m = byts b
  · obtain ⟨m, hm⟩ := hm
    have hl : m.length + 4 = b.size := by rw [← byts_length, ← hm, stampF_length]
    have hl4 : 4 ≤ b.size := by omega
    have hmz : m.length ≤ 4096 := by omega
    have hst : ((text (stampF m)).toList == b.toList) = true := by rw [hm, text_byts]; simp
    have he : b.extract 0 (b.size - 4) = text m := by rw [extract_text, ← hm, show b.size - 4 = m.length by omega, stampF, List.take_left]
    replace hm := Lib.hid hm
    clear hl
    go_enter Try.func3, Try.ntmps3
    go_wp2_with fail
    refine (awake3_c _).mono ?_
    rintro e w1 ⟨rfl, hb1⟩
    go_wp2_with fail
    refine (of_c a ha' _).mono ?_
    rintro e w' ⟨rfl, rfl⟩
    go_wp2_with fail
    refine (refOf_c a ha' _).mono ?_
    rintro e w' ⟨rfl, rfl⟩
    go_wp2_with fail
    refine (of_c a ha' _).mono ?_
    rintro e w' ⟨rfl, rfl⟩
    go_wp2_with fail
    refine (more_c _ b q0 q1 hb' _).mono ?_
    rintro e w' ⟨rfl, rfl⟩
    go_wp2_with fail
    refine (refOf_c (a ++ b) hab _).mono ?_
    rintro e w' ⟨rfl, rfl⟩
    rw [← e1.out]
    go_wp2_with fail
    refine (stamp_c a (by omega) _).mono ?_
    rintro e w2 ⟨rfl, hb2⟩
    go_wp2_with fail
    refine (refStamp_c a (by omega) _).mono ?_
    rintro e w3 ⟨rfl, hb3⟩
    go_wp2_with fail
    refine (open_yes b m hm.out (by omega) _).mono ?_
    rintro e w4 ⟨rfl, hb4⟩
    go_wp2_with fail
    refine (refStamp_c (text m) (by rw [text_size]; omega) _).mono ?_
    rintro e w5 ⟨rfl, hb5⟩
    rw [byts_text]
    go_wp2_with fail
    go_ret
    exact ⟨rfl, below_chain5 hb1 hb2 hb3 hb4 hb5⟩
  · have hm : ∀ m, stampF m ≠ byts b := fun m h => hm ⟨m, h⟩
    have hst : ∀ m, ((text (stampF m)).toList == b.toList) = false := fun m => by
      rw [beq_eq_false_iff_ne]
      intro h
      exact hm m (by rw [← toList_inj h, byts_text])
    replace hm := Lib.hid hm
    replace hst := Lib.hid hst
    by_cases h4 : b.size < 4
    · go_enter Try.func3, Try.ntmps3
      go_wp2_with fail
      refine (awake3_c _).mono ?_
      rintro e w1 ⟨rfl, hb1⟩
      go_wp2_with fail
      refine (of_c a ha' _).mono ?_
      rintro e w' ⟨rfl, rfl⟩
      go_wp2_with fail
      refine (refOf_c a ha' _).mono ?_
      rintro e w' ⟨rfl, rfl⟩
      go_wp2_with fail
      refine (of_c a ha' _).mono ?_
      rintro e w' ⟨rfl, rfl⟩
      go_wp2_with fail
      refine (more_c _ b q0 q1 hb' _).mono ?_
      rintro e w' ⟨rfl, rfl⟩
      go_wp2_with fail
      refine (refOf_c (a ++ b) hab _).mono ?_
      rintro e w' ⟨rfl, rfl⟩
      rw [← e1.out]
      go_wp2_with fail
      refine (stamp_c a (by omega) _).mono ?_
      rintro e w2 ⟨rfl, hb2⟩
      go_wp2_with fail
      refine (refStamp_c a (by omega) _).mono ?_
      rintro e w3 ⟨rfl, hb3⟩
      go_wp2_with fail
      refine (open_no b hm.out (by omega) _).mono ?_
      rintro e w4 ⟨rfl, hb4⟩
      go_wp2_with fail
      go_ret
      exact ⟨rfl, below_chain5 hb1 hb2 hb3 hb4 (Below.refl _ _)⟩
    · have h4 : 4 ≤ b.size := by omega
      go_enter Try.func3, Try.ntmps3
      go_wp2_with fail
      refine (awake3_c _).mono ?_
      rintro e w1 ⟨rfl, hb1⟩
      go_wp2_with fail
      refine (of_c a ha' _).mono ?_
      rintro e w' ⟨rfl, rfl⟩
      go_wp2_with fail
      refine (refOf_c a ha' _).mono ?_
      rintro e w' ⟨rfl, rfl⟩
      go_wp2_with fail
      refine (of_c a ha' _).mono ?_
      rintro e w' ⟨rfl, rfl⟩
      go_wp2_with fail
      refine (more_c _ b q0 q1 hb' _).mono ?_
      rintro e w' ⟨rfl, rfl⟩
      go_wp2_with fail
      refine (refOf_c (a ++ b) hab _).mono ?_
      rintro e w' ⟨rfl, rfl⟩
      rw [← e1.out]
      go_wp2_with fail
      refine (stamp_c a (by omega) _).mono ?_
      rintro e w2 ⟨rfl, hb2⟩
      go_wp2_with fail
      refine (refStamp_c a (by omega) _).mono ?_
      rintro e w3 ⟨rfl, hb3⟩
      go_wp2_with fail
      refine (open_no b hm.out (by omega) _).mono ?_
      rintro e w4 ⟨rfl, hb4⟩
      go_wp2_with fail
      refine (refStamp_c (b.extract 0 (b.size - 4)) (by simp; omega) _).mono ?_
      rintro e w5 ⟨rfl, hb5⟩
      have hx := hst.out (byts (b.extract 0 (b.size - 4)))
      go_wp2_with fail
      go_ret
      exact ⟨rfl, below_chain5 hb1 hb2 hb3 hb4 hb5⟩

theorem sealExact_any (a : ByteArray) (ha : a.size ≤ maxLen) (b : ByteArray) (hb : b.size ≤ maxLen) (w : World) :
    Calls Try.prog 3 #[.string a, .string b] w fun e w' => e = .returned (.bool true) ∧ Below w.heap.size w w' := by
  by_cases h : 4096 < a.size ∨ 4096 < b.size
  · exact sealExact_big a b ha hb h w
  · exact sealExact_small a b (by omega) (by omega) w
end Go.Proofs.Ytaddckdbhakgmaa
