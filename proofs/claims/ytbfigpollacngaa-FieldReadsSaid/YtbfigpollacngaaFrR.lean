/- the walk over FieldReads -/
import Derived.Test.YtbfigpollacngaaFr8
namespace Go.Proofs.Ytbfigpollacngaa
open Go.RowKit
open Rf
open Wide
attribute [local go_sem ↓] Go.wp_at_zero Go.wp_at_succ

theorem fieldReads_long (k : Int) (s nm : ByteArray) (h : 20 < s.size ∨ ¬ 20 < s.size ∧ 20 < nm.size) (w : World) :
    Calls Try.prog 3 #[.int .i64 k, .string s, .string nm] w fun e w' => e = .returned (.bool true) ∧ Below w.heap.size w w' := by
  rcases h with h | ⟨h, h'⟩
  all_goals
    go_enter Try.func3, Try.ntmps3
    go_wp2_with fail
    refine (awake_c.on _).mono ?_
    rintro e w1 ⟨rfl, hb⟩
    go_wp2_with fail
    go_ret
    exact ⟨rfl, hb⟩

set_option maxRecDepth 100000 in
set_option maxHeartbeats 8000000 in
theorem fieldReads_0 (k : Int) (s nm : ByteArray) (hs : ¬ 20 < s.size) (hm : ¬ 20 < nm.size) (X : WI) (nf : Int) (cg : Ret 9 #[.int .i64 k, .string s] (.tuple #[wv X, .int .i64 0])) (cr : Ret 10 #[.int .i64 k, .string s] (.tuple #[wv X, .bool true]))
    (cn : Ret 13 #[.string nm] (.tuple #[.int .i64 nf, .bool (nf != 0)])) (hw : wantF nm 10 = nf) (w : World) :
    Calls Try.prog 3 #[.int .i64 k, .string s, .string nm] w fun e w' => e = .returned (.bool true) ∧ Below w.heap.size w w' := by
  obtain ⟨Xn, Xh, Xl⟩ := X
  unfold wv at cg cr
  dsimp only at cg cr
  replace hw := Lib.hid hw
  have cnm : ∀ j : Nat, Ret 12 #[.int .i64 (j : Int)] (.string (shp (j : Int)).1) := fun j => nameR_c j
  replace cnm := Lib.hid cnm
  go_enter Try.func3, Try.ntmps3
  have hb := Lib.hid (Below.refl w.heap.size w)
  have hs8 := hb.out.size
  have hs7 := hs
  clear hs
  have hs := hs8
  clear hs8
  go_wp2_with fail
  refine (awake_c.on _).mono ?_
  rintro e w1 ⟨rfl, hb1⟩
  replace hb := Lib.hid (hb.out.trans (hb1.mono hs))
  clear hs hb1
  have hs := hb.out.size
  go_wp2_with fail
  refine (cg.on _).mono ?_
  rintro e w2 ⟨rfl, hb2⟩
  replace hb := Lib.hid (hb.out.trans (hb2.mono hs))
  clear hs hb2
  have hs := hb.out.size
  have gx := Lib.hid (IsN.new w2 ⟨Xn, Xh, Xl⟩)
  replace hb := Lib.hid (hb.out.alloc hs (oN ⟨Xn, Xh, Xl⟩))
  clear hs
  have hs := hb.out.size
  go_wp2_with fail
  refine (cr.on _).mono ?_
  rintro e w3 ⟨rfl, hb3⟩
  replace gx := Lib.hid (isN_of hb3 gx.out)
  replace hb := Lib.hid (hb.out.trans (hb3.mono hs))
  clear hs hb3
  have hs := hb.out.size
  replace gx := Lib.hid (gx.out.alloc (oN ⟨Xn, Xh, Xl⟩))
  have gy := Lib.hid (IsN.new w3 ⟨Xn, Xh, Xl⟩)
  replace hb := Lib.hid (hb.out.alloc hs (oN ⟨Xn, Xh, Xl⟩))
  clear hs
  have hs := hb.out.size
  obtain ⟨cx0, cx1, cx2⟩ := gx.out.all
  obtain ⟨cy0, cy1, cy2⟩ := gy.out.all
  dsimp only at cx0 cx1 cx2 cy0 cy1 cy2
  go_wp2_with fail
  clear cx0 cx1 cx2 cy0 cy1 cy2
  clear gx gy
  go_loopw [11, 12] (fun v i wr => ∃ j : Nat, j ≤ 10 ∧ i = .int .i64 ((j : Int) + 1) ∧ v = .int .i64 (wantF nm j) ∧ Below w.heap.size w wr) (fun _ i _ => 11 - (intOf i).toNat)
  case atStart => exact ⟨0, by omega, rfl, rfl, hb.out⟩
  case round =>
    clear hb hs
    obtain ⟨j, hj, rfl, rfl, hb⟩ := hrel
    replace hb := Lib.hid hb
    have hs := hb.out.size
    by_cases hlt : j < 10
    · have cj := cnm.out (j + 1)
      have hwj : wantF nm (j + 1) = if (nm.toList == (shp ((j + 1 : Nat) : Int)).1.toList) = true then ((j + 1 : Nat) : Int) else wantF nm j := rfl
      obtain ⟨nj, hnj⟩ : ∃ nj, (shp ((j + 1 : Nat) : Int)).1 = nj := ⟨_, rfl⟩
      rw [hnj] at cj hwj
      clear hnj
      rw [show (((j + 1 : Nat) : Int)) = (j : Int) + 1 by omega] at cj hwj
      cases he : (nm.toList == nj.toList) with
      | true =>
        rw [he, if_pos rfl] at hwj
        replace hwj := Lib.hid hwj
        go_wp2_with fail
        refine (cj.on _).mono ?_
        rintro e w21 ⟨rfl, hb21⟩
        replace hb := Lib.hid (hb.out.trans (hb21.mono hs))
        clear hs hb21
        have hs := hb.out.size
        go_wp2_with fail
        go_roundw
        case rel => exact ⟨j + 1, by omega, by go_num, by rw [hwj.out], hb.out⟩
        case measure => simp [intOf]; omega
      | false =>
        rw [he, if_neg (by decide)] at hwj
        replace hwj := Lib.hid hwj
        go_wp2_with fail
        refine (cj.on _).mono ?_
        rintro e w21 ⟨rfl, hb21⟩
        replace hb := Lib.hid (hb.out.trans (hb21.mono hs))
        clear hs hb21
        have hs := hb.out.size
        go_wp2_with fail
        go_roundw
        case rel => exact ⟨j + 1, by omega, by go_num, by rw [hwj.out], hb.out⟩
        case measure => simp [intOf]; omega
    · obtain rfl : j = 10 := by omega
      rw [hw.out]
      go_wp2_with fail
      refine (cn.on _).mono ?_
      rintro e w31 ⟨rfl, hb31⟩
      replace hb := Lib.hid (hb.out.trans (hb31.mono hs))
      clear hs hb31
      have hs := hb.out.size
      skip
      go_wp2_with fail
      go_ret
      exact ⟨rfl, hb.out⟩

set_option maxRecDepth 100000 in
set_option maxHeartbeats 8000000 in
theorem fieldReads_1 (k : Int) (s nm : ByteArray) (hs : ¬ 20 < s.size) (hm : ¬ 20 < nm.size) (X : WI) (nf : Int) (cg : Ret 9 #[.int .i64 k, .string s] (.tuple #[wv X, .int .i64 1])) (cr : Ret 10 #[.int .i64 k, .string s] (.tuple #[wv X, .bool false])) (cb : Ret 11 #[.int .i64 k] (.int .i64 0))
    (cn : Ret 13 #[.string nm] (.tuple #[.int .i64 nf, .bool (nf != 0)])) (hw : wantF nm 10 = nf) (w : World) :
    Calls Try.prog 3 #[.int .i64 k, .string s, .string nm] w fun e w' => e = .returned (.bool true) ∧ Below w.heap.size w w' := by
  obtain ⟨Xn, Xh, Xl⟩ := X
  unfold wv at cg cr
  dsimp only at cg cr
  replace hw := Lib.hid hw
  have cnm : ∀ j : Nat, Ret 12 #[.int .i64 (j : Int)] (.string (shp (j : Int)).1) := fun j => nameR_c j
  replace cnm := Lib.hid cnm
  go_enter Try.func3, Try.ntmps3
  have hb := Lib.hid (Below.refl w.heap.size w)
  have hs8 := hb.out.size
  have hs7 := hs
  clear hs
  have hs := hs8
  clear hs8
  go_wp2_with fail
  refine (awake_c.on _).mono ?_
  rintro e w1 ⟨rfl, hb1⟩
  replace hb := Lib.hid (hb.out.trans (hb1.mono hs))
  clear hs hb1
  have hs := hb.out.size
  go_wp2_with fail
  refine (cg.on _).mono ?_
  rintro e w2 ⟨rfl, hb2⟩
  replace hb := Lib.hid (hb.out.trans (hb2.mono hs))
  clear hs hb2
  have hs := hb.out.size
  have gx := Lib.hid (IsN.new w2 ⟨Xn, Xh, Xl⟩)
  replace hb := Lib.hid (hb.out.alloc hs (oN ⟨Xn, Xh, Xl⟩))
  clear hs
  have hs := hb.out.size
  go_wp2_with fail
  refine (cr.on _).mono ?_
  rintro e w3 ⟨rfl, hb3⟩
  replace gx := Lib.hid (isN_of hb3 gx.out)
  replace hb := Lib.hid (hb.out.trans (hb3.mono hs))
  clear hs hb3
  have hs := hb.out.size
  replace gx := Lib.hid (gx.out.alloc (oN ⟨Xn, Xh, Xl⟩))
  have gy := Lib.hid (IsN.new w3 ⟨Xn, Xh, Xl⟩)
  replace hb := Lib.hid (hb.out.alloc hs (oN ⟨Xn, Xh, Xl⟩))
  clear hs
  have hs := hb.out.size
  obtain ⟨cx0, cx1, cx2⟩ := gx.out.all
  obtain ⟨cy0, cy1, cy2⟩ := gy.out.all
  dsimp only at cx0 cx1 cx2 cy0 cy1 cy2
  go_wp2_with fail
  refine (cb.on _).mono ?_
  rintro e w4 ⟨rfl, hb4⟩
  replace gx := Lib.hid (isN_of hb4 gx.out)
  replace gy := Lib.hid (isN_of hb4 gy.out)
  replace hb := Lib.hid (hb.out.trans (hb4.mono hs))
  clear hs hb4
  have hs := hb.out.size
  go_wp2_with fail
  refine (cb.on _).mono ?_
  rintro e w5 ⟨rfl, hb5⟩
  replace gx := Lib.hid (isN_of hb5 gx.out)
  replace gy := Lib.hid (isN_of hb5 gy.out)
  replace hb := Lib.hid (hb.out.trans (hb5.mono hs))
  clear hs hb5
  have hs := hb.out.size
  skip
  clear cx0 cx1 cx2 cy0 cy1 cy2
  clear gx gy
  go_wp2_with fail
  go_loopw [11, 12] (fun v i wr => ∃ j : Nat, j ≤ 10 ∧ i = .int .i64 ((j : Int) + 1) ∧ v = .int .i64 (wantF nm j) ∧ Below w.heap.size w wr) (fun _ i _ => 11 - (intOf i).toNat)
  case atStart => exact ⟨0, by omega, rfl, rfl, hb.out⟩
  case round =>
    clear hb hs
    obtain ⟨j, hj, rfl, rfl, hb⟩ := hrel
    replace hb := Lib.hid hb
    have hs := hb.out.size
    by_cases hlt : j < 10
    · have cj := cnm.out (j + 1)
      have hwj : wantF nm (j + 1) = if (nm.toList == (shp ((j + 1 : Nat) : Int)).1.toList) = true then ((j + 1 : Nat) : Int) else wantF nm j := rfl
      obtain ⟨nj, hnj⟩ : ∃ nj, (shp ((j + 1 : Nat) : Int)).1 = nj := ⟨_, rfl⟩
      rw [hnj] at cj hwj
      clear hnj
      rw [show (((j + 1 : Nat) : Int)) = (j : Int) + 1 by omega] at cj hwj
      cases he : (nm.toList == nj.toList) with
      | true =>
        rw [he, if_pos rfl] at hwj
        replace hwj := Lib.hid hwj
        go_wp2_with fail
        refine (cj.on _).mono ?_
        rintro e w21 ⟨rfl, hb21⟩
        replace hb := Lib.hid (hb.out.trans (hb21.mono hs))
        clear hs hb21
        have hs := hb.out.size
        go_wp2_with fail
        go_roundw
        case rel => exact ⟨j + 1, by omega, by go_num, by rw [hwj.out], hb.out⟩
        case measure => simp [intOf]; omega
      | false =>
        rw [he, if_neg (by decide)] at hwj
        replace hwj := Lib.hid hwj
        go_wp2_with fail
        refine (cj.on _).mono ?_
        rintro e w21 ⟨rfl, hb21⟩
        replace hb := Lib.hid (hb.out.trans (hb21.mono hs))
        clear hs hb21
        have hs := hb.out.size
        go_wp2_with fail
        go_roundw
        case rel => exact ⟨j + 1, by omega, by go_num, by rw [hwj.out], hb.out⟩
        case measure => simp [intOf]; omega
    · obtain rfl : j = 10 := by omega
      rw [hw.out]
      go_wp2_with fail
      refine (cn.on _).mono ?_
      rintro e w31 ⟨rfl, hb31⟩
      replace hb := Lib.hid (hb.out.trans (hb31.mono hs))
      clear hs hb31
      have hs := hb.out.size
      skip
      go_wp2_with fail
      go_ret
      exact ⟨rfl, hb.out⟩

set_option maxRecDepth 100000 in
set_option maxHeartbeats 8000000 in
theorem fieldReads_2 (k : Int) (s nm : ByteArray) (hs : ¬ 20 < s.size) (hm : ¬ 20 < nm.size) (X : WI) (nf : Int) (cg : Ret 9 #[.int .i64 k, .string s] (.tuple #[wv X, .int .i64 4])) (cr : Ret 10 #[.int .i64 k, .string s] (.tuple #[wv X, .bool false])) (sz : Int) (hz0 : 1 ≤ sz) (hz1 : (sz == 0) = false) (cb : Ret 11 #[.int .i64 k] (.int .i64 sz))
    (cn : Ret 13 #[.string nm] (.tuple #[.int .i64 nf, .bool (nf != 0)])) (hw : wantF nm 10 = nf) (w : World) :
    Calls Try.prog 3 #[.int .i64 k, .string s, .string nm] w fun e w' => e = .returned (.bool true) ∧ Below w.heap.size w w' := by
  obtain ⟨Xn, Xh, Xl⟩ := X
  unfold wv at cg cr
  dsimp only at cg cr
  replace hw := Lib.hid hw
  have cnm : ∀ j : Nat, Ret 12 #[.int .i64 (j : Int)] (.string (shp (j : Int)).1) := fun j => nameR_c j
  replace cnm := Lib.hid cnm
  go_enter Try.func3, Try.ntmps3
  have hb := Lib.hid (Below.refl w.heap.size w)
  have hs8 := hb.out.size
  have hs7 := hs
  clear hs
  have hs := hs8
  clear hs8
  go_wp2_with fail
  refine (awake_c.on _).mono ?_
  rintro e w1 ⟨rfl, hb1⟩
  replace hb := Lib.hid (hb.out.trans (hb1.mono hs))
  clear hs hb1
  have hs := hb.out.size
  go_wp2_with fail
  refine (cg.on _).mono ?_
  rintro e w2 ⟨rfl, hb2⟩
  replace hb := Lib.hid (hb.out.trans (hb2.mono hs))
  clear hs hb2
  have hs := hb.out.size
  have gx := Lib.hid (IsN.new w2 ⟨Xn, Xh, Xl⟩)
  replace hb := Lib.hid (hb.out.alloc hs (oN ⟨Xn, Xh, Xl⟩))
  clear hs
  have hs := hb.out.size
  go_wp2_with fail
  refine (cr.on _).mono ?_
  rintro e w3 ⟨rfl, hb3⟩
  replace gx := Lib.hid (isN_of hb3 gx.out)
  replace hb := Lib.hid (hb.out.trans (hb3.mono hs))
  clear hs hb3
  have hs := hb.out.size
  replace gx := Lib.hid (gx.out.alloc (oN ⟨Xn, Xh, Xl⟩))
  have gy := Lib.hid (IsN.new w3 ⟨Xn, Xh, Xl⟩)
  replace hb := Lib.hid (hb.out.alloc hs (oN ⟨Xn, Xh, Xl⟩))
  clear hs
  have hs := hb.out.size
  obtain ⟨cx0, cx1, cx2⟩ := gx.out.all
  obtain ⟨cy0, cy1, cy2⟩ := gy.out.all
  dsimp only at cx0 cx1 cx2 cy0 cy1 cy2
  go_wp2_with fail
  refine (cb.on _).mono ?_
  rintro e w4 ⟨rfl, hb4⟩
  replace gx := Lib.hid (isN_of hb4 gx.out)
  replace gy := Lib.hid (isN_of hb4 gy.out)
  replace hb := Lib.hid (hb.out.trans (hb4.mono hs))
  clear hs hb4
  have hs := hb.out.size
  go_wp2_with fail
  refine (cb.on _).mono ?_
  rintro e w5 ⟨rfl, hb5⟩
  replace gx := Lib.hid (isN_of hb5 gx.out)
  replace gy := Lib.hid (isN_of hb5 gy.out)
  replace hb := Lib.hid (hb.out.trans (hb5.mono hs))
  clear hs hb5
  have hs := hb.out.size
  skip
  clear cx0 cx1 cx2 cy0 cy1 cy2
  clear gx gy
  go_wp2_with fail
  go_loopw [11, 12] (fun v i wr => ∃ j : Nat, j ≤ 10 ∧ i = .int .i64 ((j : Int) + 1) ∧ v = .int .i64 (wantF nm j) ∧ Below w.heap.size w wr) (fun _ i _ => 11 - (intOf i).toNat)
  case atStart => exact ⟨0, by omega, rfl, rfl, hb.out⟩
  case round =>
    clear hb hs
    obtain ⟨j, hj, rfl, rfl, hb⟩ := hrel
    replace hb := Lib.hid hb
    have hs := hb.out.size
    by_cases hlt : j < 10
    · have cj := cnm.out (j + 1)
      have hwj : wantF nm (j + 1) = if (nm.toList == (shp ((j + 1 : Nat) : Int)).1.toList) = true then ((j + 1 : Nat) : Int) else wantF nm j := rfl
      obtain ⟨nj, hnj⟩ : ∃ nj, (shp ((j + 1 : Nat) : Int)).1 = nj := ⟨_, rfl⟩
      rw [hnj] at cj hwj
      clear hnj
      rw [show (((j + 1 : Nat) : Int)) = (j : Int) + 1 by omega] at cj hwj
      cases he : (nm.toList == nj.toList) with
      | true =>
        rw [he, if_pos rfl] at hwj
        replace hwj := Lib.hid hwj
        go_wp2_with fail
        refine (cj.on _).mono ?_
        rintro e w21 ⟨rfl, hb21⟩
        replace hb := Lib.hid (hb.out.trans (hb21.mono hs))
        clear hs hb21
        have hs := hb.out.size
        go_wp2_with fail
        go_roundw
        case rel => exact ⟨j + 1, by omega, by go_num, by rw [hwj.out], hb.out⟩
        case measure => simp [intOf]; omega
      | false =>
        rw [he, if_neg (by decide)] at hwj
        replace hwj := Lib.hid hwj
        go_wp2_with fail
        refine (cj.on _).mono ?_
        rintro e w21 ⟨rfl, hb21⟩
        replace hb := Lib.hid (hb.out.trans (hb21.mono hs))
        clear hs hb21
        have hs := hb.out.size
        go_wp2_with fail
        go_roundw
        case rel => exact ⟨j + 1, by omega, by go_num, by rw [hwj.out], hb.out⟩
        case measure => simp [intOf]; omega
    · obtain rfl : j = 10 := by omega
      rw [hw.out]
      go_wp2_with fail
      refine (cn.on _).mono ?_
      rintro e w31 ⟨rfl, hb31⟩
      replace hb := Lib.hid (hb.out.trans (hb31.mono hs))
      clear hs hb31
      have hs := hb.out.size
      skip
      go_wp2_with fail
      go_ret
      exact ⟨rfl, hb.out⟩

theorem fieldReads_any (k : Int) (s : ByteArray) (nm : ByteArray) (w : World) :
    Calls Try.prog 3 #[.int .i64 k, .string s, .string nm] w fun e w' => e = .returned (.bool true) ∧ Below w.heap.size w w' := by
  by_cases h1 : 20 < s.size
  · exact fieldReads_long k s nm (.inl h1) w
  · by_cases h2 : 20 < nm.size
    · exact fieldReads_long k s nm (.inr ⟨h1, h2⟩) w
    · have cg : Ret 9 #[.int .i64 k, .string s] (.tuple #[wv (getR k (byts s)).1, .int .i64 (getR k (byts s)).2]) := fun w => get_c k s (by rw [byts_length]; omega) w
      have cr := refGet_c k s
      have cb := bytesR_c k
      have cn : Ret 13 #[.string nm] (.tuple #[.int .i64 (namedF nm), .bool (namedF nm != 0)]) := fun w => named_c nm w
      obtain ⟨e1, e2⟩ := reads_law k (byts s)
      rw [e1] at cg
      cases hr : (refGet k (byts s)).2 with
      | true =>
        rw [hr, if_pos rfl] at cg
        rw [hr] at cr
        exact fieldReads_0 k s nm h1 h2 _ _ cg cr cn (want_named nm) w
      | false =>
        rw [hr, if_neg (by decide)] at cg
        rw [hr] at cr
        have hz := size_zero (k := k)
        cases hk : isK k with
        | false =>
          rw [hk, if_neg (by decide)] at cg
          rw [hk] at hz
          rw [eq_of_beq hz] at cb
          exact fieldReads_1 k s nm h1 h2 _ _ cg cr cb cn (want_named nm) w
        | true =>
          rw [hk, if_pos rfl] at cg
          rw [hk] at hz
          exact fieldReads_2 k s nm h1 h2 _ _ cg cr _ (by have := size_of hk; omega) hz cb cn (want_named nm) w
end Go.Proofs.Ytbfigpollacngaa
