/- the walks over the reference of layer 2: what is written -/
import Derived.Test.YtaddckdbhakgmaaOctW
namespace Go.Proofs.Ytaddckdbhakgmaa
open Go.RowKit
open Rf

set_option maxHeartbeats 400000 in
theorem refNum_no (k n : Int) (h : isW k = false) (w : World) :
    Calls Try.prog 20 #[.int .i64 k, .int .u64 n] w fun e w' => e = .returned (.tuple #[.string ByteArray.empty, .bool false]) ∧ Below w.heap.size w w' := by
  simp only [isW, Bool.or_eq_false_iff, beq_eq_false_iff_ne] at h
  obtain ⟨⟨⟨h1, h2⟩, h4⟩, h8⟩ := h
  have e1 : (k != 1) = true := bne_iff_ne.2 h1
  have e2 : (k != 2) = true := bne_iff_ne.2 h2
  have e4 : (k != 4) = true := bne_iff_ne.2 h4
  have e8 : (k != 8) = true := bne_iff_ne.2 h8
  clear h1 h2 h4 h8
  go_enter Try.func20, Try.ntmps20
  go_wp2
  go_ret2
  exact ⟨rfl, Below.refl _ _⟩

set_option maxHeartbeats 800000 in
theorem refNum_yes (k n : Int) (hk : k = 1 ∨ k = 2 ∨ k = 4 ∨ k = 8) (h0 : 0 ≤ n) (h1 : n ≤ 18446744073709551615) (w : World) :
    Calls Try.prog 20 #[.int .i64 k, .int .u64 n] w fun e w' => e = .returned (.tuple #[.string (text (if sh k.toNat n == 0 then le k.toNat n else [])), .bool (sh k.toNat n == 0)]) ∧ Below w.heap.size w w' := by
  obtain ⟨i0, hi, hz0, hz1, hz2⟩ := info_parts infoU8
  obtain ⟨kn, hka, hkb⟩ : ∃ kn : Nat, k ≤ kn ∧ (kn : Int) ≤ k := ⟨k.toNat, by omega, by omega⟩
  have hkn : k.toNat = kn := by omega
  rw [hkn]
  clear hkn
  rcases hk with rfl | rfl | rfl | rfl
  all_goals
    go_enter Try.func20, Try.ntmps20
    go_wp2_with fail
    go_loopw [1, 6, 7] (fun v b i wr => ∃ (j : Nat) (a : Option Addr) (c : Nat), j ≤ kn ∧ i = .int .i64 j ∧ v = .int .u64 (sh j n) ∧ b = .slice a j c ∧ wr.ownsRow w.heap.size 5 1 (.slice a j c) j (bv (le j n)) ∧ Below w.heap.size w wr) (fun _ _ i _ => kn - (intOf i).toNat)
    case atStart => exact ⟨0, some ⟨w.heap.size, 0, none⟩, 0, by omega, rfl, rfl, rfl, ⟨rfl, .inr ⟨w.heap.size, 0, #[], rfl, Nat.le_refl _, heap_alloc_new w _, Nat.le_refl _, by unfold maxLen; omega, rfl, rfl⟩⟩, (Below.refl _ _).alloc (Nat.le_refl _) _⟩
    case round =>
      obtain ⟨j, a, c, hj, rfl, rfl, rfl, hown, hbr⟩ := hrel
      have hb := sh_bd j n _ h0 h1
      have hszr := hbr.size
      by_cases hlt' : j < kn
      · have hby : ((UInt8.ofNat (sh j n % 256).toNat).toNat : Int) = sh j n % 256 := byte_back _ (by omega) (by omega)
        replace hby := Lib.hid hby
        generalize hm : le j n = m at *
        replace hm := Lib.hid hm
        generalize hv : sh j n = v at *
        replace hv := Lib.hid hv
        have hsrc : Src Try.prog 1 33 (.slice (some ⟨wr.heap.size, 0, none⟩) 1 1) 1 [.int .u8 (v % 256)] (wr.alloc (.cells #[.int .u8 (v % 256)] 5)) :=
          Src.ofSlice _ Try.underlying33 ⟨wr.heap.size, 0, none⟩ 1 1 _ rfl (cell_one_new _ _ _) (by intro u hu; simp at hu; subst hu; rfl)
        go_wp2_with (at_builtin; refine wpList_append_own_src _ rfl (.tmp 28) (.tmp 32) 33 33 rfl w.heap.size 5 i0 (.int .u8 0) 1 1 Try.underlying33 hi hz0 hz1 hz2 rfl rfl (hown.alloc _) rfl hsrc ?_ ?_ ?_ ?_)
        · unfold maxLen; omega
        · omega
        · simp; omega
        intro b' c' w1 hown1 hg1
        have e1 : ([.int .u8 (v % 256)] : List Value) = bv [UInt8.ofNat (v % 256).toNat] := by rw [bv_one, hby.out]
        rw [e1, ← bv_append] at hown1
        have hb1 : Below w.heap.size w w1 := (hbr.alloc hszr _).grown hg1 (by simp; omega) (fun k hk => (hown.lt k hk).1)
        clear e1 hsrc hown hg1
        go_wp2_with fail
        go_roundw
        case rel => exact ⟨j + 1, _, _, by omega, by go_num, by rw [sh, hv.out], rfl, by rw [le, hm.out, hv.out]; exact hown1, hb1⟩
        case measure => simp [intOf]; omega
      · obtain rfl : j = kn := by omega
        by_cases hz : sh j n = 0
        · have hzb : (sh j n != 0) = false := by simp [hz]
          have hpo : (sh j n == 0) = true := by simp [hz]
          have hr := run_string_own wr 33 9 5 Try.underlying33 Try.underlying5 Try.underlying9 hown
          clear hz
          go_wp2_with fail
          go_ret2
          exact ⟨rfl, hbr⟩
        · have hzb : (sh j n != 0) = true := by simp [hz]
          have hpo : (sh j n == 0) = false := by simp [hz]
          clear hz
          go_wp2_with fail
          go_ret2
          exact ⟨rfl, hbr⟩

theorem refNum_c (k n : Int) (h0 : 0 ≤ n) (h1 : n ≤ 18446744073709551615) (w : World) :
    Calls Try.prog 20 #[.int .i64 k, .int .u64 n] w fun e w' => e = .returned (.tuple #[.string (text (if okNum k n then le k.toNat n else [])), .bool (okNum k n)]) ∧ Below w.heap.size w w' := by
  by_cases h : isW k = true
  · have hk : k = 1 ∨ k = 2 ∨ k = 4 ∨ k = 8 := by simp only [isW, Bool.or_eq_true, beq_iff_eq] at h; omega
    have := refNum_yes k n hk h0 h1 w
    have e : okNum k n = (sh k.toNat n == 0) := by rw [okNum, h, Bool.true_and]
    rwa [e]
  · have h : isW k = false := by simpa using h
    have e : okNum k n = false := by rw [okNum, h, Bool.false_and]
    rw [e]
    exact refNum_no k n h w

theorem refNum_ok (k n : Int) (hk : k = 1 ∨ k = 2 ∨ k = 4 ∨ k = 8) (h0 : 0 ≤ n) (h1 : n ≤ 18446744073709551615) (h : sh k.toNat n = 0) (w : World) :
    Calls Try.prog 20 #[.int .i64 k, .int .u64 n] w fun e w' => e = .returned (.tuple #[.string (text (le k.toNat n)), .bool true]) ∧ Below w.heap.size w w' := by
  have := refNum_yes k n hk h0 h1 w
  rwa [h] at this

set_option maxHeartbeats 400000 in
theorem refName_yes (s : ByteArray) (hs : s.size ≤ 255) (w : World) :
    Calls Try.prog 22 #[.string s] w fun e w' => e = .returned (.tuple #[.string (text (le 1 s.size ++ byts s)), .bool true]) ∧ Below w.heap.size w w' := by
  have hz : (text (le 1 (s.size : Int))).size ≤ 1 := by rw [text_size, le_length]; omega
  have hfin : Hid (text (le 1 (s.size : Int)) ++ s = text (le 1 (s.size : Int) ++ byts s)) := by unfold Hid; rw [← text_append, text_byts]
  go_enter Try.func22, Try.ntmps22
  go_wp2_with fail
  refine (refNum_ok 1 (s.size : Int) (by omega) (by omega) (by omega) (by show sh 1 _ = 0; rw [sh1]; omega) _).mono ?_
  rintro e w1 ⟨rfl, hb1⟩
  go_wp2_with fail
  go_ret2
  exact ⟨by rw [← hfin.out]; rfl, hb1⟩

set_option maxHeartbeats 400000 in
theorem refName_no (s : ByteArray) (hs : 255 < s.size) (hs2 : s.size ≤ maxLen) (w : World) :
    Calls Try.prog 22 #[.string s] w fun e w' => e = .returned (.tuple #[.string ByteArray.empty, .bool false]) ∧ Below w.heap.size w w' := by
  unfold maxLen at hs2
  go_enter Try.func22, Try.ntmps22
  go_wp2_with fail
  go_ret2
  exact ⟨rfl, Below.refl _ _⟩

set_option maxHeartbeats 400000 in
theorem refPart_c (s : ByteArray) (hs : s.size ≤ 4294967295) (w : World) :
    Calls Try.prog 24 #[.string s] w fun e w' => e = .returned (.string (text (le 4 s.size ++ byts s))) ∧ Below w.heap.size w w' := by
  have hz : (text (le 4 (s.size : Int))).size ≤ 4 := by rw [text_size, le_length]; omega
  have hfin : Hid (text (le 4 (s.size : Int)) ++ s = text (le 4 (s.size : Int) ++ byts s)) := by unfold Hid; rw [← text_append, text_byts]
  go_enter Try.func24, Try.ntmps24
  go_wp2_with fail
  refine (refNum_ok 4 (s.size : Int) (by omega) (by omega) (by omega) (by show sh 4 _ = 0; rw [sh4]; omega) _).mono ?_
  rintro e w1 ⟨rfl, hb1⟩
  go_wp2_with fail
  go_ret
  exact ⟨by rw [← hfin.out]; rfl, hb1⟩
end Go.Proofs.Ytaddckdbhakgmaa
