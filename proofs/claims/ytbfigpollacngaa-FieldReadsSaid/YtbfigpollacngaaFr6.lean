/- the walks over retrofitref04, third part: the number of bytes -/
import Derived.Test.YtbfigpollacngaaFr4
namespace Go.Proofs.Ytbfigpollacngaa
open Go.RowKit
open Rf
open Wide

/-- the number that the document makes of the bytes -/
def refSg (k : Int) (l : List UInt8) : Bool := decide (2 ≤ k) && decide (k ≤ 5) && decide (127 < ((l.getLast?.getD 0).toNat : Int))
def refX (k : Int) (l : List UInt8) : WI := if refSg k l = true then ⟨true, 0, 256 ^ l.length - num l⟩ else ⟨false, 0, num l⟩
def refGet (k : Int) (l : List UInt8) : WI × Bool := if (((l.length : Int) == (shp k).2.1) && !l.isEmpty && !(k == 1 && decide (1 < num l))) = true then (refX k l, true) else (zero, false)

set_option maxHeartbeats 1000000 in
theorem refGet_bad (k : Int) (s : ByteArray) (sz : Int) (cb : Ret 11 #[.int .i64 k] (.int .i64 sz)) (h : ((s.size : Int) != sz) = true ∨ ((s.size : Int) != sz) = false ∧ ((s.size : Int) == 0) = true) (w : World) :
    Calls Try.prog 10 #[.int .i64 k, .string s] w fun e w' => e = .returned (.tuple #[.agg #[.bool false, .int .u64 0, .int .u64 0], .bool false]) ∧ Below w.heap.size w w' := by
  rcases h with h | ⟨h, h'⟩
  all_goals
    go_enter Try.func10, Try.ntmps10
    go_wp2_with fail
    refine (cb.on _).mono ?_
    rintro e w1 ⟨rfl, hb1⟩
    obtain ⟨gz, hb⟩ := one_new (x := ⟨false, 0, 0⟩) hb1
    clear hb1
    obtain ⟨z0, z1, z2⟩ := gz.all
    have zf := gz.f
    obtain ⟨r0, r1, r2, hfin⟩ := last_set (w := w) (B := w.heap.size) gz ⟨false, 0, 0⟩ hb (by omega)
    dsimp only at r0 r1 r2 z0 z1 z2 hfin
    replace hfin := Lib.hid hfin
    clear gz hb
    go_wp2_with fail
    (try simp only [Exit.inBlock, Exit.then])
    refine bodyPost_ret (by simp [results, Try.results10, go_sem, r0, r1, r2]; try rfl) rfl ?_
    exact ⟨rfl, hfin.out⟩

theorem num_stepN (m : List UInt8) (i : Nat) (h : i < m.length) (n c : Int) (hn : num (m.drop (i + 1)) = n) (hc : ((m[i].toNat : Nat) : Int) = c) : num (m.drop i) = n * 256 + c := by
  rw [num_step m i h, hn, hc]; omega
set_option maxRecDepth 100000 in
set_option maxHeartbeats 4000000 in
theorem refGet_low (k : Int) (s : ByteArray) (hs1 : 1 ≤ s.size) (hs8 : s.size ≤ 8) (cb : Ret 11 #[.int .i64 k] (.int .i64 (s.size : Int))) (h1 : k < 2) (hk1 : (k == 1) = false) (w : World) :
    Calls Try.prog 10 #[.int .i64 k, .string s] w fun e w' => e = .returned (.tuple #[.agg #[.bool false, .int .u64 0, .int .u64 (num (byts s))], .bool true]) ∧ Below w.heap.size w w' := by
  obtain ⟨m, hm⟩ : ∃ m, byts s = m := ⟨_, rfl⟩
  have hl : m.length = s.size := by rw [← hm]; exact byts_length s
  have hget : ∀ (i : Nat) (hi : i < s.size) (hi' : i < m.length), s[i] = m[i] := fun i hi hi' => by
    subst hm
    simp [byts]
    rfl
  have hm0 := hm
  try rw [hm]
  clear hm hm0
  replace hl := Lib.hid hl
  replace hget := Lib.hid hget
  have hne : ((s.size : Int) == 0) = false := beq_eq_false_iff_ne.2 (by omega)
  go_enter Try.func10, Try.ntmps10
  go_wp2_with fail
  refine (cb.on _).mono ?_
  rintro e w1 ⟨rfl, hb1⟩
  obtain ⟨gz, hb⟩ := one_new (x := ⟨false, 0, 0⟩) hb1
  clear hb1
  replace gz := Lib.hid gz
  replace hb := Lib.hid hb
  go_wp2_with fail
  go_loop [6, 7] (fun n i => ∃ j : Int, -1 ≤ j ∧ j < (s.size : Int) ∧ i = .int .i64 j ∧ n = .int .u64 (num (m.drop (j + 1).toNat))) (fun _ i => (intOf i + 1).toNat)
  case atStart => exact ⟨(s.size : Int) - 1, by omega, by omega, rfl, by rw [List.drop_eq_nil_of_le (by have := hl.out; omega)]; rfl⟩
  case round =>
    obtain ⟨j, hj0, hj1, rfl, rfl⟩ := hrel
    by_cases hlt : 0 ≤ j
    · obtain ⟨i, rfl⟩ := Int.eq_ofNat_of_zero_le hlt
      have hi : i < m.length := by have := hl.out; omega
      have his : i < s.size := by omega
      have hst := num_stepN m i hi
      have hsm := num_small m (i + 1) (by have := hl.out; omega)
      have hgi := hget.out i his hi
      rw [← hgi] at hst
      rw [show ((i : Int) + 1).toNat = i + 1 by omega]
      have hby : (s[i]'his).toNat < 256 := (s[i]'his).toNat_lt
      replace hst := Lib.hid (hst _ _ rfl rfl)
      clear hgi
      generalize num (m.drop (i + 1)) = n at *
      have hilI : (i : Int) < (s.size : Int) := by omega
      go_wp2_with fail
      go_round
      case rel => exact ⟨(i : Int) - 1, by omega, by omega, rfl, by rw [show ((i : Int) - 1 + 1).toNat = i by omega, hst.out]⟩
      case measure => simp [intOf]
    · obtain rfl : j = -1 := by omega
      rw [show ((-1 : Int) + 1).toNat = 0 from rfl, List.drop_zero]
      generalize hn' : num m = n at *
      replace hn' := Lib.hid hn'
      have gz2 := gz.out.alloc (oN ⟨false, 0, n⟩)
      have hs := hb.out.size
      obtain ⟨z0, z1, z2⟩ := gz2.all
      have zf := gz2.f
      obtain ⟨r0, r1, r2, hfin⟩ := last_set (w := w) (B := w.heap.size) gz2 ⟨false, 0, n⟩ (hb.out.alloc hs _) (by omega)
      dsimp only at r0 r1 r2 z0 z1 z2 hfin
      replace hfin := Lib.hid hfin
      clear gz gz2 hb
      go_wp2_with fail
      (try simp only [Exit.inBlock, Exit.then])
      refine bodyPost_ret (by simp [results, Try.results10, go_sem, r0, r1, r2]; try rfl) rfl ?_
      exact ⟨by first | rfl | rw [hn'.out], hfin.out⟩
set_option maxRecDepth 100000 in
set_option maxHeartbeats 4000000 in
theorem refGet_high (k : Int) (s : ByteArray) (hs1 : 1 ≤ s.size) (hs8 : s.size ≤ 8) (cb : Ret 11 #[.int .i64 k] (.int .i64 (s.size : Int))) (h1 : ¬ k < 2) (h5 : ¬ k ≤ 5) (hk1 : (k == 1) = false) (w : World) :
    Calls Try.prog 10 #[.int .i64 k, .string s] w fun e w' => e = .returned (.tuple #[.agg #[.bool false, .int .u64 0, .int .u64 (num (byts s))], .bool true]) ∧ Below w.heap.size w w' := by
  obtain ⟨m, hm⟩ : ∃ m, byts s = m := ⟨_, rfl⟩
  have hl : m.length = s.size := by rw [← hm]; exact byts_length s
  have hget : ∀ (i : Nat) (hi : i < s.size) (hi' : i < m.length), s[i] = m[i] := fun i hi hi' => by
    subst hm
    simp [byts]
    rfl
  have hm0 := hm
  try rw [hm]
  clear hm hm0
  replace hl := Lib.hid hl
  replace hget := Lib.hid hget
  have hne : ((s.size : Int) == 0) = false := beq_eq_false_iff_ne.2 (by omega)
  go_enter Try.func10, Try.ntmps10
  go_wp2_with fail
  refine (cb.on _).mono ?_
  rintro e w1 ⟨rfl, hb1⟩
  obtain ⟨gz, hb⟩ := one_new (x := ⟨false, 0, 0⟩) hb1
  clear hb1
  replace gz := Lib.hid gz
  replace hb := Lib.hid hb
  go_wp2_with fail
  go_loop [6, 7] (fun n i => ∃ j : Int, -1 ≤ j ∧ j < (s.size : Int) ∧ i = .int .i64 j ∧ n = .int .u64 (num (m.drop (j + 1).toNat))) (fun _ i => (intOf i + 1).toNat)
  case atStart => exact ⟨(s.size : Int) - 1, by omega, by omega, rfl, by rw [List.drop_eq_nil_of_le (by have := hl.out; omega)]; rfl⟩
  case round =>
    obtain ⟨j, hj0, hj1, rfl, rfl⟩ := hrel
    by_cases hlt : 0 ≤ j
    · obtain ⟨i, rfl⟩ := Int.eq_ofNat_of_zero_le hlt
      have hi : i < m.length := by have := hl.out; omega
      have his : i < s.size := by omega
      have hst := num_stepN m i hi
      have hsm := num_small m (i + 1) (by have := hl.out; omega)
      have hgi := hget.out i his hi
      rw [← hgi] at hst
      rw [show ((i : Int) + 1).toNat = i + 1 by omega]
      have hby : (s[i]'his).toNat < 256 := (s[i]'his).toNat_lt
      replace hst := Lib.hid (hst _ _ rfl rfl)
      clear hgi
      generalize num (m.drop (i + 1)) = n at *
      have hilI : (i : Int) < (s.size : Int) := by omega
      go_wp2_with fail
      go_round
      case rel => exact ⟨(i : Int) - 1, by omega, by omega, rfl, by rw [show ((i : Int) - 1 + 1).toNat = i by omega, hst.out]⟩
      case measure => simp [intOf]
    · obtain rfl : j = -1 := by omega
      rw [show ((-1 : Int) + 1).toNat = 0 from rfl, List.drop_zero]
      generalize hn' : num m = n at *
      replace hn' := Lib.hid hn'
      have gz2 := gz.out.alloc (oN ⟨false, 0, n⟩)
      have hs := hb.out.size
      obtain ⟨z0, z1, z2⟩ := gz2.all
      have zf := gz2.f
      obtain ⟨r0, r1, r2, hfin⟩ := last_set (w := w) (B := w.heap.size) gz2 ⟨false, 0, n⟩ (hb.out.alloc hs _) (by omega)
      dsimp only at r0 r1 r2 z0 z1 z2 hfin
      replace hfin := Lib.hid hfin
      clear gz gz2 hb
      go_wp2_with fail
      (try simp only [Exit.inBlock, Exit.then])
      refine bodyPost_ret (by simp [results, Try.results10, go_sem, r0, r1, r2]; try rfl) rfl ?_
      exact ⟨by first | rfl | rw [hn'.out], hfin.out⟩
set_option maxRecDepth 100000 in
set_option maxHeartbeats 4000000 in
theorem refGet_b1 (k : Int) (s : ByteArray) (hs1 : 1 ≤ s.size) (hs8 : s.size ≤ 8) (cb : Ret 11 #[.int .i64 k] (.int .i64 (s.size : Int))) (h1 : k < 2) (hk1 : (k == 1) = true) (hn : ¬ 1 < num (byts s)) (w : World) :
    Calls Try.prog 10 #[.int .i64 k, .string s] w fun e w' => e = .returned (.tuple #[.agg #[.bool false, .int .u64 0, .int .u64 (num (byts s))], .bool true]) ∧ Below w.heap.size w w' := by
  obtain ⟨m, hm⟩ : ∃ m, byts s = m := ⟨_, rfl⟩
  have hl : m.length = s.size := by rw [← hm]; exact byts_length s
  have hget : ∀ (i : Nat) (hi : i < s.size) (hi' : i < m.length), s[i] = m[i] := fun i hi hi' => by
    subst hm
    simp [byts]
    rfl
  have hm0 := hm
  try rw [hm]
  rw [hm0] at hn
  clear hm hm0
  replace hl := Lib.hid hl
  replace hget := Lib.hid hget
  have hne : ((s.size : Int) == 0) = false := beq_eq_false_iff_ne.2 (by omega)
  go_enter Try.func10, Try.ntmps10
  go_wp2_with fail
  refine (cb.on _).mono ?_
  rintro e w1 ⟨rfl, hb1⟩
  obtain ⟨gz, hb⟩ := one_new (x := ⟨false, 0, 0⟩) hb1
  clear hb1
  replace gz := Lib.hid gz
  replace hb := Lib.hid hb
  go_wp2_with fail
  go_loop [6, 7] (fun n i => ∃ j : Int, -1 ≤ j ∧ j < (s.size : Int) ∧ i = .int .i64 j ∧ n = .int .u64 (num (m.drop (j + 1).toNat))) (fun _ i => (intOf i + 1).toNat)
  case atStart => exact ⟨(s.size : Int) - 1, by omega, by omega, rfl, by rw [List.drop_eq_nil_of_le (by have := hl.out; omega)]; rfl⟩
  case round =>
    obtain ⟨j, hj0, hj1, rfl, rfl⟩ := hrel
    by_cases hlt : 0 ≤ j
    · obtain ⟨i, rfl⟩ := Int.eq_ofNat_of_zero_le hlt
      have hi : i < m.length := by have := hl.out; omega
      have his : i < s.size := by omega
      have hst := num_stepN m i hi
      have hsm := num_small m (i + 1) (by have := hl.out; omega)
      have hgi := hget.out i his hi
      rw [← hgi] at hst
      rw [show ((i : Int) + 1).toNat = i + 1 by omega]
      have hby : (s[i]'his).toNat < 256 := (s[i]'his).toNat_lt
      replace hst := Lib.hid (hst _ _ rfl rfl)
      clear hgi
      generalize num (m.drop (i + 1)) = n at *
      have hilI : (i : Int) < (s.size : Int) := by omega
      go_wp2_with fail
      go_round
      case rel => exact ⟨(i : Int) - 1, by omega, by omega, rfl, by rw [show ((i : Int) - 1 + 1).toNat = i by omega, hst.out]⟩
      case measure => simp [intOf]
    · obtain rfl : j = -1 := by omega
      rw [show ((-1 : Int) + 1).toNat = 0 from rfl, List.drop_zero]
      generalize hn' : num m = n at *
      replace hn' := Lib.hid hn'
      have gz2 := gz.out.alloc (oN ⟨false, 0, n⟩)
      have hs := hb.out.size
      obtain ⟨z0, z1, z2⟩ := gz2.all
      have zf := gz2.f
      obtain ⟨r0, r1, r2, hfin⟩ := last_set (w := w) (B := w.heap.size) gz2 ⟨false, 0, n⟩ (hb.out.alloc hs _) (by omega)
      dsimp only at r0 r1 r2 z0 z1 z2 hfin
      replace hfin := Lib.hid hfin
      clear gz gz2 hb
      go_wp2_with fail
      (try simp only [Exit.inBlock, Exit.then])
      refine bodyPost_ret (by simp [results, Try.results10, go_sem, r0, r1, r2]; try rfl) rfl ?_
      exact ⟨by first | rfl | rw [hn'.out], hfin.out⟩
set_option maxRecDepth 100000 in
set_option maxHeartbeats 4000000 in
theorem refGet_b2 (k : Int) (s : ByteArray) (hs1 : 1 ≤ s.size) (hs8 : s.size ≤ 8) (cb : Ret 11 #[.int .i64 k] (.int .i64 (s.size : Int))) (h1 : k < 2) (hk1 : (k == 1) = true) (hn : 1 < num (byts s)) (w : World) :
    Calls Try.prog 10 #[.int .i64 k, .string s] w fun e w' => e = .returned (.tuple #[.agg #[.bool false, .int .u64 0, .int .u64 (0)], .bool false]) ∧ Below w.heap.size w w' := by
  obtain ⟨m, hm⟩ : ∃ m, byts s = m := ⟨_, rfl⟩
  have hl : m.length = s.size := by rw [← hm]; exact byts_length s
  have hget : ∀ (i : Nat) (hi : i < s.size) (hi' : i < m.length), s[i] = m[i] := fun i hi hi' => by
    subst hm
    simp [byts]
    rfl
  have hm0 := hm
  try rw [hm]
  rw [hm0] at hn
  clear hm hm0
  replace hl := Lib.hid hl
  replace hget := Lib.hid hget
  have hne : ((s.size : Int) == 0) = false := beq_eq_false_iff_ne.2 (by omega)
  go_enter Try.func10, Try.ntmps10
  go_wp2_with fail
  refine (cb.on _).mono ?_
  rintro e w1 ⟨rfl, hb1⟩
  obtain ⟨gz, hb⟩ := one_new (x := ⟨false, 0, 0⟩) hb1
  clear hb1
  replace gz := Lib.hid gz
  replace hb := Lib.hid hb
  go_wp2_with fail
  go_loop [6, 7] (fun n i => ∃ j : Int, -1 ≤ j ∧ j < (s.size : Int) ∧ i = .int .i64 j ∧ n = .int .u64 (num (m.drop (j + 1).toNat))) (fun _ i => (intOf i + 1).toNat)
  case atStart => exact ⟨(s.size : Int) - 1, by omega, by omega, rfl, by rw [List.drop_eq_nil_of_le (by have := hl.out; omega)]; rfl⟩
  case round =>
    obtain ⟨j, hj0, hj1, rfl, rfl⟩ := hrel
    by_cases hlt : 0 ≤ j
    · obtain ⟨i, rfl⟩ := Int.eq_ofNat_of_zero_le hlt
      have hi : i < m.length := by have := hl.out; omega
      have his : i < s.size := by omega
      have hst := num_stepN m i hi
      have hsm := num_small m (i + 1) (by have := hl.out; omega)
      have hgi := hget.out i his hi
      rw [← hgi] at hst
      rw [show ((i : Int) + 1).toNat = i + 1 by omega]
      have hby : (s[i]'his).toNat < 256 := (s[i]'his).toNat_lt
      replace hst := Lib.hid (hst _ _ rfl rfl)
      clear hgi
      generalize num (m.drop (i + 1)) = n at *
      have hilI : (i : Int) < (s.size : Int) := by omega
      go_wp2_with fail
      go_round
      case rel => exact ⟨(i : Int) - 1, by omega, by omega, rfl, by rw [show ((i : Int) - 1 + 1).toNat = i by omega, hst.out]⟩
      case measure => simp [intOf]
    · obtain rfl : j = -1 := by omega
      rw [show ((-1 : Int) + 1).toNat = 0 from rfl, List.drop_zero]
      generalize hn' : num m = n at *
      replace hn' := Lib.hid hn'
      have gz2 := gz.out.alloc (oN ⟨false, 0, n⟩)
      have hs := hb.out.size
      obtain ⟨z0, z1, z2⟩ := gz2.all
      have zf := gz2.f
      obtain ⟨r0, r1, r2, hfin⟩ := last_set (w := w) (B := w.heap.size) gz2 ⟨false, 0, 0⟩ (hb.out.alloc hs _) (by omega)
      dsimp only at r0 r1 r2 z0 z1 z2 hfin
      replace hfin := Lib.hid hfin
      clear gz gz2 hb
      go_wp2_with fail
      (try simp only [Exit.inBlock, Exit.then])
      refine bodyPost_ret (by simp [results, Try.results10, go_sem, r0, r1, r2]; try rfl) rfl ?_
      exact ⟨by first | rfl | rw [hn'.out], hfin.out⟩
set_option maxRecDepth 100000 in
set_option maxHeartbeats 4000000 in
theorem refGet_pos (k : Int) (s : ByteArray) (hs1 : 1 ≤ s.size) (hs8 : s.size ≤ 8) (cb : Ret 11 #[.int .i64 k] (.int .i64 (s.size : Int))) (h1 : ¬ k < 2) (h5 : k ≤ 5) (hk1 : (k == 1) = false) (hc : ¬ 127 < ((s[s.size - 1]'(by omega)).toNat : Int)) (w : World) :
    Calls Try.prog 10 #[.int .i64 k, .string s] w fun e w' => e = .returned (.tuple #[.agg #[.bool false, .int .u64 0, .int .u64 (num (byts s))], .bool true]) ∧ Below w.heap.size w w' := by
  obtain ⟨m, hm⟩ : ∃ m, byts s = m := ⟨_, rfl⟩
  have hl : m.length = s.size := by rw [← hm]; exact byts_length s
  have hget : ∀ (i : Nat) (hi : i < s.size) (hi' : i < m.length), s[i] = m[i] := fun i hi hi' => by
    subst hm
    simp [byts]
    rfl
  have hm0 := hm
  try rw [hm]
  clear hm hm0
  replace hl := Lib.hid hl
  replace hget := Lib.hid hget
  have hne : ((s.size : Int) == 0) = false := beq_eq_false_iff_ne.2 (by omega)
  go_enter Try.func10, Try.ntmps10
  go_wp2_with fail
  refine (cb.on _).mono ?_
  rintro e w1 ⟨rfl, hb1⟩
  obtain ⟨gz, hb⟩ := one_new (x := ⟨false, 0, 0⟩) hb1
  clear hb1
  replace gz := Lib.hid gz
  replace hb := Lib.hid hb
  go_wp2_with fail
  go_loop [6, 7] (fun n i => ∃ j : Int, -1 ≤ j ∧ j < (s.size : Int) ∧ i = .int .i64 j ∧ n = .int .u64 (num (m.drop (j + 1).toNat))) (fun _ i => (intOf i + 1).toNat)
  case atStart => exact ⟨(s.size : Int) - 1, by omega, by omega, rfl, by rw [List.drop_eq_nil_of_le (by have := hl.out; omega)]; rfl⟩
  case round =>
    obtain ⟨j, hj0, hj1, rfl, rfl⟩ := hrel
    by_cases hlt : 0 ≤ j
    · obtain ⟨i, rfl⟩ := Int.eq_ofNat_of_zero_le hlt
      have hi : i < m.length := by have := hl.out; omega
      have his : i < s.size := by omega
      have hst := num_stepN m i hi
      have hsm := num_small m (i + 1) (by have := hl.out; omega)
      have hgi := hget.out i his hi
      rw [← hgi] at hst
      rw [show ((i : Int) + 1).toNat = i + 1 by omega]
      have hby : (s[i]'his).toNat < 256 := (s[i]'his).toNat_lt
      replace hst := Lib.hid (hst _ _ rfl rfl)
      clear hgi
      generalize num (m.drop (i + 1)) = n at *
      have hilI : (i : Int) < (s.size : Int) := by omega
      go_wp2_with fail
      go_round
      case rel => exact ⟨(i : Int) - 1, by omega, by omega, rfl, by rw [show ((i : Int) - 1 + 1).toNat = i by omega, hst.out]⟩
      case measure => simp [intOf]
    · obtain rfl : j = -1 := by omega
      rw [show ((-1 : Int) + 1).toNat = 0 from rfl, List.drop_zero]
      generalize hn' : num m = n at *
      replace hn' := Lib.hid hn'
      have gz2 := gz.out.alloc (oN ⟨false, 0, n⟩)
      have hs := hb.out.size
      obtain ⟨z0, z1, z2⟩ := gz2.all
      have zf := gz2.f
      obtain ⟨r0, r1, r2, hfin⟩ := last_set (w := w) (B := w.heap.size) gz2 ⟨false, 0, n⟩ (hb.out.alloc hs _) (by omega)
      dsimp only at r0 r1 r2 z0 z1 z2 hfin
      replace hfin := Lib.hid hfin
      clear gz gz2 hb
      go_wp2_with fail
      (try simp only [Exit.inBlock, Exit.then])
      refine bodyPost_ret (by simp [results, Try.results10, go_sem, r0, r1, r2]; try rfl) rfl ?_
      exact ⟨by first | rfl | rw [hn'.out], hfin.out⟩
set_option maxRecDepth 100000 in
set_option maxHeartbeats 4000000 in
theorem refGet_max (k : Int) (s : ByteArray) (hs1 : 1 ≤ s.size) (hs8 : s.size ≤ 8) (cb : Ret 11 #[.int .i64 k] (.int .i64 (s.size : Int))) (h1 : ¬ k < 2) (h5 : k ≤ 5) (hk1 : (k == 1) = false) (hc : 127 < ((s[s.size - 1]'(by omega)).toNat : Int)) (h8 : 8 ≤ s.size) (Y : Int) (eY : IntKind.u64.wrap (-(num (byts s))) = Y) (w : World) :
    Calls Try.prog 10 #[.int .i64 k, .string s] w fun e w' => e = .returned (.tuple #[.agg #[.bool true, .int .u64 0, .int .u64 (Y)], .bool true]) ∧ Below w.heap.size w w' := by
  obtain ⟨m, hm⟩ : ∃ m, byts s = m := ⟨_, rfl⟩
  have hl : m.length = s.size := by rw [← hm]; exact byts_length s
  have hget : ∀ (i : Nat) (hi : i < s.size) (hi' : i < m.length), s[i] = m[i] := fun i hi hi' => by
    subst hm
    simp [byts]
    rfl
  have hm0 := hm
  try rw [hm]
  rw [hm0] at eY
  clear hm hm0
  replace hl := Lib.hid hl
  replace hget := Lib.hid hget
  have hne : ((s.size : Int) == 0) = false := beq_eq_false_iff_ne.2 (by omega)
  go_enter Try.func10, Try.ntmps10
  go_wp2_with fail
  refine (cb.on _).mono ?_
  rintro e w1 ⟨rfl, hb1⟩
  obtain ⟨gz, hb⟩ := one_new (x := ⟨false, 0, 0⟩) hb1
  clear hb1
  replace gz := Lib.hid gz
  replace hb := Lib.hid hb
  go_wp2_with fail
  go_loop [6, 7] (fun n i => ∃ j : Int, -1 ≤ j ∧ j < (s.size : Int) ∧ i = .int .i64 j ∧ n = .int .u64 (num (m.drop (j + 1).toNat))) (fun _ i => (intOf i + 1).toNat)
  case atStart => exact ⟨(s.size : Int) - 1, by omega, by omega, rfl, by rw [List.drop_eq_nil_of_le (by have := hl.out; omega)]; rfl⟩
  case round =>
    obtain ⟨j, hj0, hj1, rfl, rfl⟩ := hrel
    by_cases hlt : 0 ≤ j
    · obtain ⟨i, rfl⟩ := Int.eq_ofNat_of_zero_le hlt
      have hi : i < m.length := by have := hl.out; omega
      have his : i < s.size := by omega
      have hst := num_stepN m i hi
      have hsm := num_small m (i + 1) (by have := hl.out; omega)
      have hgi := hget.out i his hi
      rw [← hgi] at hst
      rw [show ((i : Int) + 1).toNat = i + 1 by omega]
      have hby : (s[i]'his).toNat < 256 := (s[i]'his).toNat_lt
      replace hst := Lib.hid (hst _ _ rfl rfl)
      clear hgi
      generalize num (m.drop (i + 1)) = n at *
      have hilI : (i : Int) < (s.size : Int) := by omega
      go_wp2_with fail
      go_round
      case rel => exact ⟨(i : Int) - 1, by omega, by omega, rfl, by rw [show ((i : Int) - 1 + 1).toNat = i by omega, hst.out]⟩
      case measure => simp [intOf]
    · obtain rfl : j = -1 := by omega
      rw [show ((-1 : Int) + 1).toNat = 0 from rfl, List.drop_zero]
      generalize hn' : num m = n at *
      replace hn' := Lib.hid hn'
      have gz2 := gz.out.alloc (oN ⟨true, 0, Y⟩)
      have hs := hb.out.size
      obtain ⟨z0, z1, z2⟩ := gz2.all
      have zf := gz2.f
      obtain ⟨r0, r1, r2, hfin⟩ := last_set (w := w) (B := w.heap.size) gz2 ⟨true, 0, Y⟩ (hb.out.alloc hs _) (by omega)
      dsimp only at r0 r1 r2 z0 z1 z2 hfin
      replace hfin := Lib.hid hfin
      clear gz gz2 hb
      go_wp2_with fail
      (try simp only [Exit.inBlock, Exit.then])
      refine bodyPost_ret (by simp [results, Try.results10, go_sem, r0, r1, r2]; try rfl) rfl ?_
      exact ⟨by first | rfl | rw [hn'.out], hfin.out⟩
theorem pow7b {j : Nat} (h : j ≤ 7) : (256 : Int) ^ j ≤ 72057594037927936 := by
  rcases (show j = 0 ∨ j = 1 ∨ j = 2 ∨ j = 3 ∨ j = 4 ∨ j = 5 ∨ j = 6 ∨ j = 7 by omega) with rfl | rfl | rfl | rfl | rfl | rfl | rfl | rfl <;> decide
theorem pow7 {j : Nat} (h : j ≤ 6) : (256 : Int) ^ j ≤ 281474976710656 := by
  rcases (show j = 0 ∨ j = 1 ∨ j = 2 ∨ j = 3 ∨ j = 4 ∨ j = 5 ∨ j = 6 by omega) with rfl | rfl | rfl | rfl | rfl | rfl | rfl <;> decide
set_option maxRecDepth 100000 in
set_option maxHeartbeats 4000000 in
theorem refGet_neg (k : Int) (s : ByteArray) (hs1 : 1 ≤ s.size) (hs8 : s.size ≤ 8) (cb : Ret 11 #[.int .i64 k] (.int .i64 (s.size : Int))) (h1 : ¬ k < 2) (h5 : k ≤ 5) (hk1 : (k == 1) = false) (hc : 127 < ((s[s.size - 1]'(by omega)).toNat : Int)) (h8 : s.size < 8) (w : World) :
    Calls Try.prog 10 #[.int .i64 k, .string s] w fun e w' => e = .returned (.tuple #[.agg #[.bool true, .int .u64 0, .int .u64 (256 ^ s.size - num (byts s))], .bool true]) ∧ Below w.heap.size w w' := by
  obtain ⟨m, hm⟩ : ∃ m, byts s = m := ⟨_, rfl⟩
  have hl : m.length = s.size := by rw [← hm]; exact byts_length s
  have hget : ∀ (i : Nat) (hi : i < s.size) (hi' : i < m.length), s[i] = m[i] := fun i hi hi' => by
    subst hm
    simp [byts]
    rfl
  have hm0 := hm
  try rw [hm]
  clear hm hm0
  replace hl := Lib.hid hl
  replace hget := Lib.hid hget
  have hne : ((s.size : Int) == 0) = false := beq_eq_false_iff_ne.2 (by omega)
  go_enter Try.func10, Try.ntmps10
  go_wp2_with fail
  refine (cb.on _).mono ?_
  rintro e w1 ⟨rfl, hb1⟩
  obtain ⟨gz, hb⟩ := one_new (x := ⟨false, 0, 0⟩) hb1
  clear hb1
  replace gz := Lib.hid gz
  replace hb := Lib.hid hb
  go_wp2_with fail
  go_loop [6, 7] (fun n i => ∃ j : Int, -1 ≤ j ∧ j < (s.size : Int) ∧ i = .int .i64 j ∧ n = .int .u64 (num (m.drop (j + 1).toNat))) (fun _ i => (intOf i + 1).toNat)
  case atStart => exact ⟨(s.size : Int) - 1, by omega, by omega, rfl, by rw [List.drop_eq_nil_of_le (by have := hl.out; omega)]; rfl⟩
  case round =>
    obtain ⟨j, hj0, hj1, rfl, rfl⟩ := hrel
    by_cases hlt : 0 ≤ j
    · obtain ⟨i, rfl⟩ := Int.eq_ofNat_of_zero_le hlt
      have hi : i < m.length := by have := hl.out; omega
      have his : i < s.size := by omega
      have hst := num_stepN m i hi
      have hsm := num_small m (i + 1) (by have := hl.out; omega)
      have hgi := hget.out i his hi
      rw [← hgi] at hst
      rw [show ((i : Int) + 1).toNat = i + 1 by omega]
      have hby : (s[i]'his).toNat < 256 := (s[i]'his).toNat_lt
      replace hst := Lib.hid (hst _ _ rfl rfl)
      clear hgi
      generalize num (m.drop (i + 1)) = n at *
      have hilI : (i : Int) < (s.size : Int) := by omega
      go_wp2_with fail
      go_round
      case rel => exact ⟨(i : Int) - 1, by omega, by omega, rfl, by rw [show ((i : Int) - 1 + 1).toNat = i by omega, hst.out]⟩
      case measure => simp [intOf]
    · obtain rfl : j = -1 := by omega
      rw [show ((-1 : Int) + 1).toNat = 0 from rfl, List.drop_zero]
      generalize hn' : num m = n at *
      replace hn' := Lib.hid hn'
      have hb0 := num_bd m
      rw [hl.out, hn'.out] at hb0
      go_wp2_with fail
      go_loop [9, 10] (fun t i => ∃ j : Nat, j ≤ s.size ∧ i = .int .i64 j ∧ t = .int .u64 ((256 : Int) ^ j)) (fun _ i => s.size - (intOf i).toNat)
      case atStart => exact ⟨0, Nat.zero_le _, rfl, rfl⟩
      case round =>
        obtain ⟨j, hj, rfl, rfl⟩ := hrel
        by_cases hjs : j < s.size
        · have hp := pow8 (j := j + 1) (by omega)
          have hq := pow8 (j := j) (by omega)
          rw [Int.pow_succ] at hp
          have hps := Lib.hid (Int.pow_succ (256 : Int) j)
          have hq7 : (256 : Int) ^ j * 256 ≤ 18446744073709551615 := by have := pow7 (j := j) (by omega); omega
          generalize (256 : Int) ^ j = p at *
          clear hp
          go_wp2_with fail
          go_round
          case rel => exact ⟨j + 1, by omega, by go_num, by rw [hps.out]⟩
          case measure => simp [intOf]; omega
        · obtain rfl : j = s.size := by omega
          have hp := pow7b (j := s.size) (by omega)
          obtain ⟨p, hpp⟩ : ∃ p, (256 : Int) ^ s.size = p := ⟨_, rfl⟩
          rw [hpp] at hb0 hp
          rw [hpp]
          replace hpp := Lib.hid hpp
          have gz2 := gz.out.alloc (oN ⟨true, 0, p - n⟩)
          have hs := hb.out.size
          obtain ⟨z0, z1, z2⟩ := gz2.all
          have zf := gz2.f
          obtain ⟨r0, r1, r2, hfin⟩ := last_set (w := w) (B := w.heap.size) gz2 ⟨true, 0, p - n⟩ (hb.out.alloc hs _) (by omega)
          dsimp only at r0 r1 r2 z0 z1 z2 hfin
          replace hfin := Lib.hid hfin
          clear gz gz2 hb
          go_wp2_with fail
          (try simp only [Exit.inBlock, Exit.then])
          refine bodyPost_ret (by simp [results, Try.results10, go_sem, r0, r1, r2]; try rfl) rfl ?_
          exact ⟨by rw [hpp.out, hn'.out], hfin.out⟩
end Go.Proofs.Ytbfigpollacngaa
