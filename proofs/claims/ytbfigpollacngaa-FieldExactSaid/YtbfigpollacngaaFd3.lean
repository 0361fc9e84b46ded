/- the walks over package field, third part: the greatest number -/
import Derived.Test.YtbfigpollacngaaFd2
namespace Go.Proofs.Ytbfigpollacngaa
open Go.RowKit
open Rf
open Wide

set_option maxRecDepth 10000 in
set_option maxHeartbeats 2000000 in
theorem great_1 (w : World) : Calls Try.prog 18 #[.int .i64 1] w fun e w' => e = .returned (wv ⟨false, 0, 1⟩) ∧ Below w.heap.size w w' := by
  have cs := Lib.hid (show ∀ w, Calls Try.prog 36 #[.int .i64 1] w fun e w' => e = .returned (.agg #[.string ⟨#[98, 111, 111, 108]⟩, .int .i64 1, .bool false]) ∧ Below w.heap.size w w' from shape_c 1)
  have cw := Lib.hid (ofWord_c 1)
  have c1 := of_c 1 (by decide) (by decide)
  rw [show mk 1 = ⟨false, 0, 1⟩ from rfl] at c1
  replace c1 := Lib.hid c1
  unfold wv at *
  dsimp only at *
  go_enter Try.func18, Try.ntmps18
  go_wp2_with fail
  refine (cs.out _).mono ?_
  rintro e w1 ⟨rfl, hb1⟩
  obtain ⟨gz, hb⟩ := one_new (x := ⟨false, 0, 0⟩) hb1
  have hs := hb.size
  clear hb1
  replace gz := Lib.hid gz
  replace hb := Lib.hid hb
  go_wp2_with fail
  refine (c1.out _).mono ?_
  rintro e w3 ⟨rfl, hb3⟩
  have gz3 := (gz.out.alloc _).below hb3
  obtain ⟨z0, z1, z2⟩ := gz3.all
  have zf := gz3.f
  obtain ⟨r0, r1, r2, hfin⟩ := last_set (w := w) (B := w.heap.size) gz3 ⟨false, 0, 1⟩ ((hb.out.alloc hs _).trans (hb3.mono (by rw [size_alloc]; omega))) (Nat.le_refl _)
  dsimp only at r0 r1 r2 z0 z1 z2 hfin
  replace hfin := Lib.hid hfin
  clear gz gz3 hb3 hb
  go_wp2_with fail
  (try simp only [Exit.inBlock, Exit.then])
  refine bodyPost_ret (by simp [results, Try.results18, go_sem, r0, r1, r2]; try rfl) rfl ?_
  exact ⟨rfl, hfin.out⟩
set_option maxRecDepth 10000 in
set_option maxHeartbeats 2000000 in
theorem great_2 (w : World) : Calls Try.prog 18 #[.int .i64 2] w fun e w' => e = .returned (wv ⟨false, 0, 127⟩) ∧ Below w.heap.size w w' := by
  have cs := Lib.hid (show ∀ w, Calls Try.prog 36 #[.int .i64 2] w fun e w' => e = .returned (.agg #[.string ⟨#[105, 56]⟩, .int .i64 1, .bool true]) ∧ Below w.heap.size w w' from shape_c 2)
  have cw := Lib.hid (ofWord_c 127)
  have cp := power_c 8 (by decide)
  rw [show powK 8 = 255 from rfl] at cp
  replace cp := Lib.hid cp
  unfold wv at *
  dsimp only at *
  go_enter Try.func18, Try.ntmps18
  go_wp2_with fail
  refine (cs.out _).mono ?_
  rintro e w1 ⟨rfl, hb1⟩
  obtain ⟨gz, hb⟩ := one_new (x := ⟨false, 0, 0⟩) hb1
  have hs := hb.size
  clear hb1
  replace gz := Lib.hid gz
  replace hb := Lib.hid hb
  go_wp2_with fail
  refine (cp.out _).mono ?_
  rintro e w2 ⟨rfl, rfl⟩
  go_wp2_with fail
  refine (cw.out _).mono ?_
  rintro e w3 ⟨rfl, hb3⟩
  have gz3 := (gz.out.alloc _).below hb3
  obtain ⟨z0, z1, z2⟩ := gz3.all
  have zf := gz3.f
  obtain ⟨r0, r1, r2, hfin⟩ := last_set (w := w) (B := w.heap.size) gz3 ⟨false, 0, 127⟩ ((hb.out.alloc hs _).trans (hb3.mono (by rw [size_alloc]; omega))) (Nat.le_refl _)
  dsimp only at r0 r1 r2 z0 z1 z2 hfin
  replace hfin := Lib.hid hfin
  clear gz gz3 hb3 hb
  go_wp2_with fail
  (try simp only [Exit.inBlock, Exit.then])
  refine bodyPost_ret (by simp [results, Try.results18, go_sem, r0, r1, r2]; try rfl) rfl ?_
  exact ⟨rfl, hfin.out⟩
set_option maxRecDepth 10000 in
set_option maxHeartbeats 2000000 in
theorem great_3 (w : World) : Calls Try.prog 18 #[.int .i64 3] w fun e w' => e = .returned (wv ⟨false, 0, 32767⟩) ∧ Below w.heap.size w w' := by
  have cs := Lib.hid (show ∀ w, Calls Try.prog 36 #[.int .i64 3] w fun e w' => e = .returned (.agg #[.string ⟨#[105, 49, 54]⟩, .int .i64 2, .bool true]) ∧ Below w.heap.size w w' from shape_c 3)
  have cw := Lib.hid (ofWord_c 32767)
  have cp := power_c 16 (by decide)
  rw [show powK 16 = 65535 from rfl] at cp
  replace cp := Lib.hid cp
  unfold wv at *
  dsimp only at *
  go_enter Try.func18, Try.ntmps18
  go_wp2_with fail
  refine (cs.out _).mono ?_
  rintro e w1 ⟨rfl, hb1⟩
  obtain ⟨gz, hb⟩ := one_new (x := ⟨false, 0, 0⟩) hb1
  have hs := hb.size
  clear hb1
  replace gz := Lib.hid gz
  replace hb := Lib.hid hb
  go_wp2_with fail
  refine (cp.out _).mono ?_
  rintro e w2 ⟨rfl, rfl⟩
  go_wp2_with fail
  refine (cw.out _).mono ?_
  rintro e w3 ⟨rfl, hb3⟩
  have gz3 := (gz.out.alloc _).below hb3
  obtain ⟨z0, z1, z2⟩ := gz3.all
  have zf := gz3.f
  obtain ⟨r0, r1, r2, hfin⟩ := last_set (w := w) (B := w.heap.size) gz3 ⟨false, 0, 32767⟩ ((hb.out.alloc hs _).trans (hb3.mono (by rw [size_alloc]; omega))) (Nat.le_refl _)
  dsimp only at r0 r1 r2 z0 z1 z2 hfin
  replace hfin := Lib.hid hfin
  clear gz gz3 hb3 hb
  go_wp2_with fail
  (try simp only [Exit.inBlock, Exit.then])
  refine bodyPost_ret (by simp [results, Try.results18, go_sem, r0, r1, r2]; try rfl) rfl ?_
  exact ⟨rfl, hfin.out⟩
set_option maxRecDepth 10000 in
set_option maxHeartbeats 2000000 in
theorem great_4 (w : World) : Calls Try.prog 18 #[.int .i64 4] w fun e w' => e = .returned (wv ⟨false, 0, 2147483647⟩) ∧ Below w.heap.size w w' := by
  have cs := Lib.hid (show ∀ w, Calls Try.prog 36 #[.int .i64 4] w fun e w' => e = .returned (.agg #[.string ⟨#[105, 51, 50]⟩, .int .i64 4, .bool true]) ∧ Below w.heap.size w w' from shape_c 4)
  have cw := Lib.hid (ofWord_c 2147483647)
  have cp := power_c 32 (by decide)
  rw [show powK 32 = 4294967295 from rfl] at cp
  replace cp := Lib.hid cp
  unfold wv at *
  dsimp only at *
  go_enter Try.func18, Try.ntmps18
  go_wp2_with fail
  refine (cs.out _).mono ?_
  rintro e w1 ⟨rfl, hb1⟩
  obtain ⟨gz, hb⟩ := one_new (x := ⟨false, 0, 0⟩) hb1
  have hs := hb.size
  clear hb1
  replace gz := Lib.hid gz
  replace hb := Lib.hid hb
  go_wp2_with fail
  refine (cp.out _).mono ?_
  rintro e w2 ⟨rfl, rfl⟩
  go_wp2_with fail
  refine (cw.out _).mono ?_
  rintro e w3 ⟨rfl, hb3⟩
  have gz3 := (gz.out.alloc _).below hb3
  obtain ⟨z0, z1, z2⟩ := gz3.all
  have zf := gz3.f
  obtain ⟨r0, r1, r2, hfin⟩ := last_set (w := w) (B := w.heap.size) gz3 ⟨false, 0, 2147483647⟩ ((hb.out.alloc hs _).trans (hb3.mono (by rw [size_alloc]; omega))) (Nat.le_refl _)
  dsimp only at r0 r1 r2 z0 z1 z2 hfin
  replace hfin := Lib.hid hfin
  clear gz gz3 hb3 hb
  go_wp2_with fail
  (try simp only [Exit.inBlock, Exit.then])
  refine bodyPost_ret (by simp [results, Try.results18, go_sem, r0, r1, r2]; try rfl) rfl ?_
  exact ⟨rfl, hfin.out⟩
set_option maxRecDepth 10000 in
set_option maxHeartbeats 2000000 in
theorem great_5 (w : World) : Calls Try.prog 18 #[.int .i64 5] w fun e w' => e = .returned (wv ⟨false, 0, 9223372036854775807⟩) ∧ Below w.heap.size w w' := by
  have cs := Lib.hid (show ∀ w, Calls Try.prog 36 #[.int .i64 5] w fun e w' => e = .returned (.agg #[.string ⟨#[105, 54, 52]⟩, .int .i64 8, .bool true]) ∧ Below w.heap.size w w' from shape_c 5)
  have cw := Lib.hid (ofWord_c 9223372036854775807)
  have cp := power_c 64 (by decide)
  rw [show powK 64 = 18446744073709551615 from rfl] at cp
  replace cp := Lib.hid cp
  unfold wv at *
  dsimp only at *
  go_enter Try.func18, Try.ntmps18
  go_wp2_with fail
  refine (cs.out _).mono ?_
  rintro e w1 ⟨rfl, hb1⟩
  obtain ⟨gz, hb⟩ := one_new (x := ⟨false, 0, 0⟩) hb1
  have hs := hb.size
  clear hb1
  replace gz := Lib.hid gz
  replace hb := Lib.hid hb
  go_wp2_with fail
  refine (cp.out _).mono ?_
  rintro e w2 ⟨rfl, rfl⟩
  go_wp2_with fail
  refine (cw.out _).mono ?_
  rintro e w3 ⟨rfl, hb3⟩
  have gz3 := (gz.out.alloc _).below hb3
  obtain ⟨z0, z1, z2⟩ := gz3.all
  have zf := gz3.f
  obtain ⟨r0, r1, r2, hfin⟩ := last_set (w := w) (B := w.heap.size) gz3 ⟨false, 0, 9223372036854775807⟩ ((hb.out.alloc hs _).trans (hb3.mono (by rw [size_alloc]; omega))) (Nat.le_refl _)
  dsimp only at r0 r1 r2 z0 z1 z2 hfin
  replace hfin := Lib.hid hfin
  clear gz gz3 hb3 hb
  go_wp2_with fail
  (try simp only [Exit.inBlock, Exit.then])
  refine bodyPost_ret (by simp [results, Try.results18, go_sem, r0, r1, r2]; try rfl) rfl ?_
  exact ⟨rfl, hfin.out⟩
set_option maxRecDepth 10000 in
set_option maxHeartbeats 2000000 in
theorem great_6 (w : World) : Calls Try.prog 18 #[.int .i64 6] w fun e w' => e = .returned (wv ⟨false, 0, 255⟩) ∧ Below w.heap.size w w' := by
  have cs := Lib.hid (show ∀ w, Calls Try.prog 36 #[.int .i64 6] w fun e w' => e = .returned (.agg #[.string ⟨#[117, 56]⟩, .int .i64 1, .bool false]) ∧ Below w.heap.size w w' from shape_c 6)
  have cw := Lib.hid (ofWord_c 255)
  have cp := power_c 8 (by decide)
  rw [show powK 8 = 255 from rfl] at cp
  replace cp := Lib.hid cp
  unfold wv at *
  dsimp only at *
  go_enter Try.func18, Try.ntmps18
  go_wp2_with fail
  refine (cs.out _).mono ?_
  rintro e w1 ⟨rfl, hb1⟩
  obtain ⟨gz, hb⟩ := one_new (x := ⟨false, 0, 0⟩) hb1
  have hs := hb.size
  clear hb1
  replace gz := Lib.hid gz
  replace hb := Lib.hid hb
  go_wp2_with fail
  refine (cp.out _).mono ?_
  rintro e w2 ⟨rfl, rfl⟩
  go_wp2_with fail
  refine (cw.out _).mono ?_
  rintro e w3 ⟨rfl, hb3⟩
  have gz3 := (gz.out.alloc _).below hb3
  obtain ⟨z0, z1, z2⟩ := gz3.all
  have zf := gz3.f
  obtain ⟨r0, r1, r2, hfin⟩ := last_set (w := w) (B := w.heap.size) gz3 ⟨false, 0, 255⟩ ((hb.out.alloc hs _).trans (hb3.mono (by rw [size_alloc]; omega))) (Nat.le_refl _)
  dsimp only at r0 r1 r2 z0 z1 z2 hfin
  replace hfin := Lib.hid hfin
  clear gz gz3 hb3 hb
  go_wp2_with fail
  (try simp only [Exit.inBlock, Exit.then])
  refine bodyPost_ret (by simp [results, Try.results18, go_sem, r0, r1, r2]; try rfl) rfl ?_
  exact ⟨rfl, hfin.out⟩
set_option maxRecDepth 10000 in
set_option maxHeartbeats 2000000 in
theorem great_7 (w : World) : Calls Try.prog 18 #[.int .i64 7] w fun e w' => e = .returned (wv ⟨false, 0, 65535⟩) ∧ Below w.heap.size w w' := by
  have cs := Lib.hid (show ∀ w, Calls Try.prog 36 #[.int .i64 7] w fun e w' => e = .returned (.agg #[.string ⟨#[117, 49, 54]⟩, .int .i64 2, .bool false]) ∧ Below w.heap.size w w' from shape_c 7)
  have cw := Lib.hid (ofWord_c 65535)
  have cp := power_c 16 (by decide)
  rw [show powK 16 = 65535 from rfl] at cp
  replace cp := Lib.hid cp
  unfold wv at *
  dsimp only at *
  go_enter Try.func18, Try.ntmps18
  go_wp2_with fail
  refine (cs.out _).mono ?_
  rintro e w1 ⟨rfl, hb1⟩
  obtain ⟨gz, hb⟩ := one_new (x := ⟨false, 0, 0⟩) hb1
  have hs := hb.size
  clear hb1
  replace gz := Lib.hid gz
  replace hb := Lib.hid hb
  go_wp2_with fail
  refine (cp.out _).mono ?_
  rintro e w2 ⟨rfl, rfl⟩
  go_wp2_with fail
  refine (cw.out _).mono ?_
  rintro e w3 ⟨rfl, hb3⟩
  have gz3 := (gz.out.alloc _).below hb3
  obtain ⟨z0, z1, z2⟩ := gz3.all
  have zf := gz3.f
  obtain ⟨r0, r1, r2, hfin⟩ := last_set (w := w) (B := w.heap.size) gz3 ⟨false, 0, 65535⟩ ((hb.out.alloc hs _).trans (hb3.mono (by rw [size_alloc]; omega))) (Nat.le_refl _)
  dsimp only at r0 r1 r2 z0 z1 z2 hfin
  replace hfin := Lib.hid hfin
  clear gz gz3 hb3 hb
  go_wp2_with fail
  (try simp only [Exit.inBlock, Exit.then])
  refine bodyPost_ret (by simp [results, Try.results18, go_sem, r0, r1, r2]; try rfl) rfl ?_
  exact ⟨rfl, hfin.out⟩
set_option maxRecDepth 10000 in
set_option maxHeartbeats 2000000 in
theorem great_8 (w : World) : Calls Try.prog 18 #[.int .i64 8] w fun e w' => e = .returned (wv ⟨false, 0, 4294967295⟩) ∧ Below w.heap.size w w' := by
  have cs := Lib.hid (show ∀ w, Calls Try.prog 36 #[.int .i64 8] w fun e w' => e = .returned (.agg #[.string ⟨#[117, 51, 50]⟩, .int .i64 4, .bool false]) ∧ Below w.heap.size w w' from shape_c 8)
  have cw := Lib.hid (ofWord_c 4294967295)
  have cp := power_c 32 (by decide)
  rw [show powK 32 = 4294967295 from rfl] at cp
  replace cp := Lib.hid cp
  unfold wv at *
  dsimp only at *
  go_enter Try.func18, Try.ntmps18
  go_wp2_with fail
  refine (cs.out _).mono ?_
  rintro e w1 ⟨rfl, hb1⟩
  obtain ⟨gz, hb⟩ := one_new (x := ⟨false, 0, 0⟩) hb1
  have hs := hb.size
  clear hb1
  replace gz := Lib.hid gz
  replace hb := Lib.hid hb
  go_wp2_with fail
  refine (cp.out _).mono ?_
  rintro e w2 ⟨rfl, rfl⟩
  go_wp2_with fail
  refine (cw.out _).mono ?_
  rintro e w3 ⟨rfl, hb3⟩
  have gz3 := (gz.out.alloc _).below hb3
  obtain ⟨z0, z1, z2⟩ := gz3.all
  have zf := gz3.f
  obtain ⟨r0, r1, r2, hfin⟩ := last_set (w := w) (B := w.heap.size) gz3 ⟨false, 0, 4294967295⟩ ((hb.out.alloc hs _).trans (hb3.mono (by rw [size_alloc]; omega))) (Nat.le_refl _)
  dsimp only at r0 r1 r2 z0 z1 z2 hfin
  replace hfin := Lib.hid hfin
  clear gz gz3 hb3 hb
  go_wp2_with fail
  (try simp only [Exit.inBlock, Exit.then])
  refine bodyPost_ret (by simp [results, Try.results18, go_sem, r0, r1, r2]; try rfl) rfl ?_
  exact ⟨rfl, hfin.out⟩
set_option maxRecDepth 10000 in
set_option maxHeartbeats 2000000 in
theorem great_9 (w : World) : Calls Try.prog 18 #[.int .i64 9] w fun e w' => e = .returned (wv ⟨false, 0, 18446744073709551615⟩) ∧ Below w.heap.size w w' := by
  have cs := Lib.hid (show ∀ w, Calls Try.prog 36 #[.int .i64 9] w fun e w' => e = .returned (.agg #[.string ⟨#[117, 54, 52]⟩, .int .i64 8, .bool false]) ∧ Below w.heap.size w w' from shape_c 9)
  have cw := Lib.hid (ofWord_c 18446744073709551615)
  have cp := power_c 64 (by decide)
  rw [show powK 64 = 18446744073709551615 from rfl] at cp
  replace cp := Lib.hid cp
  unfold wv at *
  dsimp only at *
  go_enter Try.func18, Try.ntmps18
  go_wp2_with fail
  refine (cs.out _).mono ?_
  rintro e w1 ⟨rfl, hb1⟩
  obtain ⟨gz, hb⟩ := one_new (x := ⟨false, 0, 0⟩) hb1
  have hs := hb.size
  clear hb1
  replace gz := Lib.hid gz
  replace hb := Lib.hid hb
  go_wp2_with fail
  refine (cp.out _).mono ?_
  rintro e w2 ⟨rfl, rfl⟩
  go_wp2_with fail
  refine (cw.out _).mono ?_
  rintro e w3 ⟨rfl, hb3⟩
  have gz3 := (gz.out.alloc _).below hb3
  obtain ⟨z0, z1, z2⟩ := gz3.all
  have zf := gz3.f
  obtain ⟨r0, r1, r2, hfin⟩ := last_set (w := w) (B := w.heap.size) gz3 ⟨false, 0, 18446744073709551615⟩ ((hb.out.alloc hs _).trans (hb3.mono (by rw [size_alloc]; omega))) (Nat.le_refl _)
  dsimp only at r0 r1 r2 z0 z1 z2 hfin
  replace hfin := Lib.hid hfin
  clear gz gz3 hb3 hb
  go_wp2_with fail
  (try simp only [Exit.inBlock, Exit.then])
  refine bodyPost_ret (by simp [results, Try.results18, go_sem, r0, r1, r2]; try rfl) rfl ?_
  exact ⟨rfl, hfin.out⟩
set_option maxRecDepth 10000 in
set_option maxHeartbeats 2000000 in
theorem great_10 (w : World) : Calls Try.prog 18 #[.int .i64 10] w fun e w' => e = .returned (wv ⟨false, 0, 18446744073709551615⟩) ∧ Below w.heap.size w w' := by
  have cs := Lib.hid (show ∀ w, Calls Try.prog 36 #[.int .i64 10] w fun e w' => e = .returned (.agg #[.string ⟨#[114, 101, 102]⟩, .int .i64 8, .bool false]) ∧ Below w.heap.size w w' from shape_c 10)
  have cw := Lib.hid (ofWord_c 18446744073709551615)
  have cp := power_c 64 (by decide)
  rw [show powK 64 = 18446744073709551615 from rfl] at cp
  replace cp := Lib.hid cp
  unfold wv at *
  dsimp only at *
  go_enter Try.func18, Try.ntmps18
  go_wp2_with fail
  refine (cs.out _).mono ?_
  rintro e w1 ⟨rfl, hb1⟩
  obtain ⟨gz, hb⟩ := one_new (x := ⟨false, 0, 0⟩) hb1
  have hs := hb.size
  clear hb1
  replace gz := Lib.hid gz
  replace hb := Lib.hid hb
  go_wp2_with fail
  refine (cp.out _).mono ?_
  rintro e w2 ⟨rfl, rfl⟩
  go_wp2_with fail
  refine (cw.out _).mono ?_
  rintro e w3 ⟨rfl, hb3⟩
  have gz3 := (gz.out.alloc _).below hb3
  obtain ⟨z0, z1, z2⟩ := gz3.all
  have zf := gz3.f
  obtain ⟨r0, r1, r2, hfin⟩ := last_set (w := w) (B := w.heap.size) gz3 ⟨false, 0, 18446744073709551615⟩ ((hb.out.alloc hs _).trans (hb3.mono (by rw [size_alloc]; omega))) (Nat.le_refl _)
  dsimp only at r0 r1 r2 z0 z1 z2 hfin
  replace hfin := Lib.hid hfin
  clear gz gz3 hb3 hb
  go_wp2_with fail
  (try simp only [Exit.inBlock, Exit.then])
  refine bodyPost_ret (by simp [results, Try.results18, go_sem, r0, r1, r2]; try rfl) rfl ?_
  exact ⟨rfl, hfin.out⟩
set_option maxRecDepth 10000 in
set_option maxHeartbeats 2000000 in
theorem great_none (k : Int) (h2 : shp k = (⟨#[]⟩, 0, false)) (w : World) : Calls Try.prog 18 #[.int .i64 k] w fun e w' => e = .returned (wv ⟨false, 0, 0⟩) ∧ Below w.heap.size w w' := by
  have cs := shape_c k
  rw [h2] at cs
  clear h2
  replace cs := Lib.hid cs
  unfold wv at *
  dsimp only at *
  go_enter Try.func18, Try.ntmps18
  go_wp2_with fail
  refine (cs.out _).mono ?_
  rintro e w1 ⟨rfl, hb1⟩
  obtain ⟨gz, hb⟩ := one_new (x := ⟨false, 0, 0⟩) hb1
  have hs := hb.size
  clear hb1
  have gz3 := gz.alloc (.cells #[.string ⟨#[]⟩, .int .i64 0, .bool false] 56)
  obtain ⟨z0, z1, z2⟩ := gz3.all
  have zf := gz3.f
  obtain ⟨r0, r1, r2, hfin⟩ := last_set (w := w) (B := w.heap.size) gz3 ⟨false, 0, 0⟩ (hb.alloc hs _) (Nat.le_refl _)
  dsimp only at r0 r1 r2 z0 z1 z2 hfin
  replace hfin := Lib.hid hfin
  clear gz gz3 hb
  go_wp2_with fail
  (try simp only [Exit.inBlock, Exit.then])
  refine bodyPost_ret (by simp [results, Try.results18, go_sem, r0, r1, r2]; try rfl) rfl ?_
  exact ⟨rfl, hfin.out⟩
theorem greatK_c (k : Int) (w : World) : Calls Try.prog 18 #[.int .i64 k] w fun e w' => e = .returned (wv (mk (gK k))) ∧ Below w.heap.size w w' := by
  have hm : mk (gK k) = ⟨false, 0, gK k⟩ := by
    have hb := gK_bd k
    unfold mk
    rw [decide_eq_false (by omega)]
    congr 1 <;> omega
  rw [hm]
  rcases kinds k with rfl | rfl | rfl | rfl | rfl | rfl | rfl | rfl | rfl | rfl | ⟨h1, h2⟩
  · exact great_1 w
  · exact great_2 w
  · exact great_3 w
  · exact great_4 w
  · exact great_5 w
  · exact great_6 w
  · exact great_7 w
  · exact great_8 w
  · exact great_9 w
  · exact great_10 w
  · rw [gK_none h1]
    exact great_none k h2 w
theorem mk_nat_ok {v : Int} (h0 : -170141183460469231731687303715884105728 < v) (h1 : v < 170141183460469231731687303715884105728) : In v = true := In_iff.2 ⟨h0, h1⟩
set_option maxRecDepth 10000 in
set_option maxHeartbeats 2000000 in
theorem leastK_c (k : Int) (w : World) : Calls Try.prog 17 #[.int .i64 k] w fun e w' => e = .returned (wv (mk (lK k))) ∧ Below w.heap.size w w' := by
  have cs := shape_c k
  have hg := gK_bd k
  unfold lK
  cases hsg : (shp k).2.2 with
  | false =>
    rw [hsg] at cs
    rw [if_neg (by decide), show mk 0 = ⟨false, 0, 0⟩ from rfl]
    clear hsg
    generalize (shp k).1 = nm at *
    generalize (shp k).2.1 = sz at *
    have hfd := field_sign nm sz false
    replace cs := Lib.hid cs
    unfold wv at *
    dsimp only at *
    go_enter Try.func17, Try.ntmps17
    go_wp2_with fail
    refine (cs.out _).mono ?_
    rintro e w1 ⟨rfl, hb1⟩
    obtain ⟨gz, hb⟩ := one_new (x := ⟨false, 0, 0⟩) hb1
    clear hb1
    obtain ⟨z0, z1, z2⟩ := gz.all
    have zf := gz.f
    obtain ⟨r0, r1, r2, hfin⟩ := last_set (w := w) (B := w.heap.size) gz ⟨false, 0, 0⟩ hb (Nat.le_refl _)
    dsimp only at r0 r1 r2 z0 z1 z2 hfin
    replace hfin := Lib.hid hfin
    clear gz hb
    go_wp2_with fail
    (try simp only [Exit.inBlock, Exit.then])
    refine bodyPost_ret (by simp [results, Try.results17, go_sem, r0, r1, r2]; try rfl) rfl ?_
    exact ⟨rfl, hfin.out⟩
  | true =>
    rw [hsg] at cs
    rw [if_pos rfl]
    clear hsg
    generalize (shp k).1 = nm at *
    generalize (shp k).2.1 = sz at *
    have hfd := field_sign nm sz true
    have i1 := mk_nat_ok (v := gK k) (by omega) (by omega)
    have i2 := mk_nat_ok (v := - gK k) (by omega) (by omega)
    have i3 := mk_nat_ok (v := 1) (by decide) (by decide)
    have i4 := mk_nat_ok (v := - gK k - 1) (by omega) (by omega)
    have cg := greatK_c k
    have cn := neg_c (mk (gK k)) (mk_ok _ i1)
    rw [negF_of (mk_form _ i1), mk_val] at cn
    have c1 := of_c 1 (by decide) (by decide)
    have cb := sub_c (mk (- gK k)) (mk 1) (mk_ok _ i2) (mk_ok _ i3)
    have eb : subF (mk (- gK k)) (mk 1) = (mk (- gK k - 1), 0) := by
      unfold subF
      rw [mk_form _ i2, mk_form _ i3, if_pos (by rfl), mk_val, mk_val, R_in i4]
    rw [eb] at cb
    clear eb i1 i2 i3 i4 hg
    generalize mk (- gK k - 1) = L at *
    generalize mk (- gK k) = N at *
    generalize mk (gK k) = G at *
    generalize mk 1 = O at *
    obtain ⟨Ln, Lh, Ll⟩ := L
    obtain ⟨Nn, Nh, Nl⟩ := N
    obtain ⟨Gn, Gh, Gl⟩ := G
    obtain ⟨On, Oh, Ol⟩ := O
    unfold wv at *
    dsimp only at *
    replace cs := Lib.hid cs
    replace cg := Lib.hid cg
    replace cn := Lib.hid cn
    replace c1 := Lib.hid c1
    replace cb := Lib.hid cb
    go_enter Try.func17, Try.ntmps17
    go_wp2_with fail
    refine (cs.out _).mono ?_
    rintro e w1 ⟨rfl, hb1⟩
    obtain ⟨gz, hb⟩ := one_new (x := ⟨false, 0, 0⟩) hb1
    have hs := hb.size
    clear hb1
    replace gz := Lib.hid gz
    replace hb := Lib.hid hb
    go_wp2_with fail
    refine (cg.out _).mono ?_
    rintro e w2 ⟨rfl, hb2⟩
    replace gz := Lib.hid (gz.out.below hb2)
    replace hb := Lib.hid (hb.out.trans (hb2.mono hs))
    clear hs hb2
    have hs := hb.out.size
    go_wp2_with fail
    refine (cn.out _).mono ?_
    rintro e w3 ⟨rfl, hb3⟩
    replace gz := Lib.hid (gz.out.below hb3)
    replace hb := Lib.hid (hb.out.trans (hb3.mono hs))
    clear hs hb3
    have hs := hb.out.size
    go_wp2_with fail
    refine (c1.out _).mono ?_
    rintro e w4 ⟨rfl, hb4⟩
    replace gz := Lib.hid (gz.out.below hb4)
    replace hb := Lib.hid (hb.out.trans (hb4.mono hs))
    clear hs hb4
    have hs := hb.out.size
    go_wp2_with fail
    refine (cb.out _).mono ?_
    rintro e w5 ⟨rfl, hb5⟩
    replace gz := Lib.hid (gz.out.below hb5)
    replace hb := Lib.hid (hb.out.trans (hb5.mono hs))
    clear hs hb5
    have hs := hb.out.size
    have gz6 := gz.out.alloc (oN ⟨Ln, Lh, Ll⟩)
    have gl := IsN.new w5 ⟨Ln, Lh, Ll⟩
    obtain ⟨z0, z1, z2⟩ := gz6.all
    obtain ⟨l0, l1, l2⟩ := gl.all
    have zf := gz6.f
    obtain ⟨r0, r1, r2, hfin⟩ := last_set (w := w) (B := w.heap.size) gz6 ⟨Ln, Lh, Ll⟩ (hb.out.alloc hs _) (Nat.le_refl _)
    dsimp only at r0 r1 r2 z0 z1 z2 l0 l1 l2 hfin
    replace hfin := Lib.hid hfin
    clear gz gz6 gl hb
    go_wp2_with fail
    (try simp only [Exit.inBlock, Exit.then])
    refine bodyPost_ret (by simp [results, Try.results17, go_sem, r0, r1, r2]; try rfl) rfl ?_
    exact ⟨rfl, hfin.out⟩
end Go.Proofs.Ytbfigpollacngaa
