/- the walks over package seal's stamps -/
import Derived.Test.YtaddckdbhakgmaaSealW
import Derived.Test.YtaddckdbhakgmaaOctW
namespace Go.Proofs.Ytaddckdbhakgmaa
open Go.RowKit
open Rf

def stampF (l : List UInt8) : List UInt8 := l ++ le 4 (Adler.sum l)

set_option maxHeartbeats 400000 in
theorem stamp_c (s : ByteArray) (hs : s.size ≤ 100000000000) (w : World) :
    Calls Try.prog 14 #[.string s] w fun e w' => e = .returned (.string (text (stampF (byts s)))) ∧ Below w.heap.size w w' := by
  have hm : s.size ≤ maxLen := by unfold maxLen; omega
  obtain ⟨q0, q1⟩ := Adler.more_bd 1 (byts s)
  have hq : Adler.more 1 (byts s) = Adler.sum (byts s) := rfl
  rw [hq] at q0 q1
  clear hq
  go_enter Try.func14, Try.ntmps14
  go_wp2_with fail
  refine (raw_c (IsW.new w.heap.size w (Nat.le_refl _)) s (by simp; omega)).mono ?_
  rintro e w1 ⟨rfl, hw1, hb1⟩
  go_wp2_with fail
  refine (of_c s hm _).mono ?_
  rintro e w' ⟨rfl, rfl⟩
  go_wp2_with fail
  refine (num_yes hw1 4 _ q0 (by omega) (by omega) (by show sh 4 _ = 0; rw [sh4]; omega) (by simp [byts_length]; omega)).mono ?_
  rintro e w2 ⟨rfl, hw2, hb2⟩
  go_wp2_with fail
  refine (string_c hw2).mono ?_
  rintro e w' ⟨rfl, rfl⟩
  go_wp2_with fail
  go_ret
  exact ⟨rfl, ((Below.refl _ _).alloc (Nat.le_refl _) _).trans (hb1.trans hb2)⟩

theorem cells_le4 (S : Int) (h0 : 0 ≤ S) (h1 : S ≤ 4294967295) : #[Value.int .u8 (S % 256), Value.int .u8 (S / 256 % 256), Value.int .u8 (S / 65536 % 256), Value.int .u8 (S / 16777216)] = (bv (le 4 S)).toArray := by
  simp only [le, sh, bv, List.nil_append, List.cons_append, List.map_cons, List.map_nil]
  rw [byte_back _ (by omega) (by omega), byte_back _ (by omega) (by omega), byte_back _ (by omega) (by omega), byte_back _ (by omega) (by omega)]
  have e2 : S / 256 / 256 % 256 = S / 65536 % 256 := by omega
  have e3 : S / 256 / 256 / 256 % 256 = S / 16777216 := by omega
  rw [e2, e3]

theorem refStamp_of (s : ByteArray) (hs : s.size ≤ 100000000000) (w : World) (S : Int) (q0 : 0 ≤ S) (q1 : S ≤ 4294967295) (hS : Hid (Adler.sum (byts s) = S)) :
    Calls Try.prog 15 #[.string s] w fun e w' => e = .returned (.string (s ++ text (le 4 S))) ∧ Below w.heap.size w w' := by
  have hm : s.size ≤ maxLen := by unfold maxLen; omega
  have hz : (text (le 4 S)).size ≤ 4 := by rw [text_size, le_length]; omega
  have hr : (convert 33 9 (.slice (some ⟨w.heap.size, 0, none⟩) 4 4)).run Try.prog (w.alloc (.cells #[Value.int .u8 (S % 256), Value.int .u8 (S / 256 % 256), Value.int .u8 (S / 65536 % 256), Value.int .u8 (S / 16777216)] 5)) =
      .ok (.string (text (le 4 S))) (w.alloc (.cells #[Value.int .u8 (S % 256), Value.int .u8 (S / 256 % 256), Value.int .u8 (S / 65536 % 256), Value.int .u8 (S / 16777216)] 5)) := by
    rw [cells_le4 S q0 q1]
    exact run_string_own _ 33 9 5 Try.underlying33 Try.underlying5 Try.underlying9 (ownsRow_lit w w.heap.size _ _ 4 (Nat.le_refl _) (by rw [bv_length, le_length]) (by unfold maxLen; omega))
  go_enter Try.func15, Try.ntmps15
  go_wp2_with fail
  refine (refOf_c s hm _).mono ?_
  rintro e w' ⟨rfl, rfl⟩
  rw [hS.out]
  go_wp2_with fail
  go_ret
  exact ⟨rfl, (Below.refl _ _).alloc (Nat.le_refl _) _⟩

theorem refStamp_c (s : ByteArray) (hs : s.size ≤ 100000000000) (w : World) :
    Calls Try.prog 15 #[.string s] w fun e w' => e = .returned (.string (text (stampF (byts s)))) ∧ Below w.heap.size w w' := by
  obtain ⟨q0, q1⟩ := Adler.more_bd 1 (byts s)
  have h := refStamp_of s hs w _ q0 q1 (Lib.hid rfl)
  have e : s ++ text (le 4 (Adler.more 1 (byts s))) = text (stampF (byts s)) := by
    rw [show s = text (byts s) from (text_byts s).symm, text_append, byts_text]; rfl
  rwa [e] at h

theorem stampF_length (l : List UInt8) : (stampF l).length = l.length + 4 := by rw [stampF, List.length_append, le_length]

set_option maxHeartbeats 400000 in
/-- the bytes whose stamp these are -/
theorem open_yes (s : ByteArray) (m : List UInt8) (hm : stampF m = byts s) (hs : s.size ≤ 100000000000) (w : World) :
    Calls Try.prog 16 #[.string s] w fun e w' => e = .returned (.tuple #[.string (text m), .int .i64 0]) ∧ Below w.heap.size w w' := by
  have hl : m.length + 4 = s.size := by rw [← byts_length, ← hm, stampF_length]
  have hst : ((text (stampF m)).toList == s.toList) = true := by rw [hm, text_byts]; simp
  have h4 : 4 ≤ s.size := by omega
  by_cases h5 : s.size = 4
  · obtain rfl : m = [] := List.eq_nil_of_length_eq_zero (by omega)
    have h5a : s.size ≤ 4 := by omega
    clear h5 hl hm
    go_enter Try.func16, Try.ntmps16
    go_wp2_with fail
    refine (stamp_c _ (by simp) _).mono ?_
    rintro e w' ⟨rfl, hb⟩
    rw [show byts ByteArray.empty = [] from rfl]
    go_wp2_with fail
    go_ret2
    exact ⟨rfl, hb⟩
  · have h6 : 4 < s.size := by omega
    have he : s.extract 0 ((s.size : Int) - 4).toNat = text m := by
      rw [extract_text, ← hm, show ((s.size : Int) - 4).toNat = m.length by omega, stampF, List.take_left]
    have hml : m.length ≤ 100000000000 := by omega
    clear h5 hl hm
    go_enter Try.func16, Try.ntmps16
    go_wp2_with fail
    refine (stamp_c _ (by rw [text_size]; exact hml) _).mono ?_
    rintro e w' ⟨rfl, hb⟩
    rw [byts_text]
    go_wp2_with fail
    go_ret2
    exact ⟨rfl, hb⟩

set_option maxHeartbeats 400000 in
theorem open_no (s : ByteArray) (hm : ∀ m, stampF m ≠ byts s) (hs : s.size ≤ 100000000000) (w : World) :
    Calls Try.prog 16 #[.string s] w fun e w' => e = .returned (.tuple #[.string ByteArray.empty, .int .i64 4]) ∧ Below w.heap.size w w' := by
  have hst : ∀ m, ((text (stampF m)).toList == s.toList) = false := fun m => by
    rw [beq_eq_false_iff_ne]
    intro h
    exact hm m (by rw [← toList_inj h, byts_text])
  clear hm
  have hst := Lib.hid hst
  by_cases h4 : s.size < 4
  · go_enter Try.func16, Try.ntmps16
    go_wp2_with fail
    go_ret2
    exact ⟨rfl, Below.refl _ _⟩
  have h4 : 4 ≤ s.size := by omega
  by_cases h5 : s.size = 4
  · have h5a : s.size ≤ 4 := by omega
    clear h5
    go_enter Try.func16, Try.ntmps16
    go_wp2_with fail
    refine (stamp_c _ (by simp) _).mono ?_
    rintro e w' ⟨rfl, hb⟩
    have hx := hst.out (byts ByteArray.empty)
    go_wp2_with fail
    go_ret2
    exact ⟨rfl, hb⟩
  · have h6 : 4 < s.size := by omega
    clear h5
    go_enter Try.func16, Try.ntmps16
    go_wp2_with fail
    refine (stamp_c _ (by simp; omega) _).mono ?_
    rintro e w' ⟨rfl, hb⟩
    have hx := hst.out (byts (s.extract 0 ((s.size : Int) - 4).toNat))
    go_wp2_with fail
    go_ret2
    exact ⟨rfl, hb⟩
end Go.Proofs.Ytaddckdbhakgmaa
