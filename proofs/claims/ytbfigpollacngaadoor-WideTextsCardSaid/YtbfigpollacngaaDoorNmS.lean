/- the walks over wide.Small, and the law's sign of an int -/
import Derived.Test.YtbfigpollacngaaDoorWvW9
import Derived.Test.YtbfigpollacngaaDoorCt
namespace Go.Proofs.YtbfigpollacngaaDoor
open Go.RowKit
open Rf
open Wide

/-- the int that a number is -/
def smallF (x : WI) : Int × Bool := if x.form = true ∧ x.h = 0 ∧ (x.l < 9223372036854775808 ∨ (x.n = true ∧ x.l = 9223372036854775808)) then (x.val, true) else (0, false)
theorem small_bad (x : WI) (ho : x.Ok) (hf : x.form = false) : Ret 18 #[wv x] (.tuple #[.int .i64 0, .bool false]) := fun w => by
  have cx := form_c x ho
  rw [hf] at cx
  clear hf ho
  obtain ⟨n, h, l⟩ := x
  unfold wv at *
  dsimp only at *
  replace cx := Lib.hid cx
  cases n <;>
  · go_enter Tryd.func18, Tryd.ntmps18
    go_wp2_with fail
    refine (cx.out _).mono ?_
    rintro e w1 ⟨rfl, hb1⟩
    obtain ⟨gx, hb⟩ := one_new (x := ⟨_, h, l⟩) hb1
    obtain ⟨x0, x1, x2⟩ := gx.all
    dsimp only at x0 x1 x2
    replace hb := Lib.hid hb
    clear hb1
    replace gx := Lib.hid gx
    go_wp2_with fail
    (try simp only [Exit.inBlock, Exit.then])
    refine bodyPost_ret (by simp [results, Tryd.results18, go_sem]; try rfl) rfl ?_
    exact ⟨rfl, hb.out⟩
theorem small_high (x : WI) (ho : x.Ok) (hf : x.form = true) (hh : ¬ x.h = 0) : Ret 18 #[wv x] (.tuple #[.int .i64 0, .bool false]) := fun w => by
  have cx := form_c x ho
  rw [hf] at cx
  clear hf ho
  obtain ⟨n, h, l⟩ := x
  unfold wv at *
  dsimp only at *
  have e1 : (h != 0) = true := bne_iff_ne.2 hh
  replace cx := Lib.hid cx
  clear hh
  cases n <;>
  · go_enter Tryd.func18, Tryd.ntmps18
    go_wp2_with fail
    refine (cx.out _).mono ?_
    rintro e w1 ⟨rfl, hb1⟩
    obtain ⟨gx, hb⟩ := one_new (x := ⟨_, h, l⟩) hb1
    obtain ⟨x0, x1, x2⟩ := gx.all
    dsimp only at x0 x1 x2
    replace hb := Lib.hid hb
    clear hb1
    replace gx := Lib.hid gx
    go_wp2_with fail
    (try simp only [Exit.inBlock, Exit.then])
    refine bodyPost_ret (by simp [results, Tryd.results18, go_sem]; try rfl) rfl ?_
    exact ⟨rfl, hb.out⟩
theorem small_low (x : WI) (ho : x.Ok) (hf : x.form = true) (hh : x.h = 0) : Ret 18 #[wv x] (.tuple #[.int .i64 (smallF x).1, .bool (smallF x).2]) := fun w => by
  have cx := form_c x ho
  rw [hf] at cx
  have hnz : x.n = true → x.l ≠ 0 := fun hn hl => by
    have := form_neg hf hn
    rw [hh, hl] at this
    cases this
  have hs : smallF x = if x.l < 9223372036854775808 ∨ (x.n = true ∧ x.l = 9223372036854775808) then (x.val, true) else (0, false) := by
    unfold smallF
    rw [hf, hh]
    simp
  rw [hs]
  clear hs hf
  obtain ⟨o1, o2, o3, o4⟩ := ho
  obtain ⟨n, h, l⟩ := x
  dsimp only at *
  subst hh
  have hv : (⟨n, 0, l⟩ : WI).val = if n = true then -l else l := by unfold WI.val WI.sz; simp
  rw [hv]
  clear hv
  unfold wv at *
  dsimp only at *
  replace cx := Lib.hid cx
  have e1 : ((0 : Int) != 0) = false := rfl
  cases n with
  | false =>
    by_cases hl : 9223372036854775807 < l
    · rw [if_neg (by simp; omega)]
      go_enter Tryd.func18, Tryd.ntmps18
      go_wp2_with fail
      refine (cx.out _).mono ?_
      rintro e w1 ⟨rfl, hb1⟩
      obtain ⟨gx, hb⟩ := one_new (x := ⟨false, 0, l⟩) hb1
      obtain ⟨x0, x1, x2⟩ := gx.all
      dsimp only at x0 x1 x2
      replace hb := Lib.hid hb
      clear hb1
      replace gx := Lib.hid gx
      go_wp2_with fail
      (try simp only [Exit.inBlock, Exit.then])
      refine bodyPost_ret (by simp [results, Tryd.results18, go_sem]; try rfl) rfl ?_
      exact ⟨rfl, hb.out⟩
    · rw [if_pos (by simp; omega)]
      have e2 : IntKind.i64.wrap l = l := IntWalk.i64_in _ (by omega)
      go_enter Tryd.func18, Tryd.ntmps18
      go_wp2_with fail
      refine (cx.out _).mono ?_
      rintro e w1 ⟨rfl, hb1⟩
      obtain ⟨gx, hb⟩ := one_new (x := ⟨false, 0, l⟩) hb1
      obtain ⟨x0, x1, x2⟩ := gx.all
      dsimp only at x0 x1 x2
      replace hb := Lib.hid hb
      clear hb1
      replace gx := Lib.hid gx
      go_wp2_with fail
      (try simp only [Exit.inBlock, Exit.then])
      refine bodyPost_ret (by simp [results, Tryd.results18, go_sem]; try rfl) rfl ?_
      exact ⟨rfl, hb.out⟩
  | true =>
    have hl0 := hnz rfl
    by_cases hl : 9223372036854775808 < l
    · rw [if_neg (by simp; omega)]
      clear hnz
      go_enter Tryd.func18, Tryd.ntmps18
      go_wp2_with fail
      refine (cx.out _).mono ?_
      rintro e w1 ⟨rfl, hb1⟩
      obtain ⟨gx, hb⟩ := one_new (x := ⟨true, 0, l⟩) hb1
      obtain ⟨x0, x1, x2⟩ := gx.all
      dsimp only at x0 x1 x2
      replace hb := Lib.hid hb
      clear hb1
      replace gx := Lib.hid gx
      go_wp2_with fail
      (try simp only [Exit.inBlock, Exit.then])
      refine bodyPost_ret (by simp [results, Tryd.results18, go_sem]; try rfl) rfl ?_
      exact ⟨rfl, hb.out⟩
    · rw [if_pos (by simp; omega)]
      clear hnz
      have e2 : IntKind.i64.wrap (IntKind.u64.wrap (-l)) = -l := by simp [IntKind.wrap, IntKind.bits, IntKind.signed]; omega
      go_enter Tryd.func18, Tryd.ntmps18
      go_wp2_with fail
      refine (cx.out _).mono ?_
      rintro e w1 ⟨rfl, hb1⟩
      obtain ⟨gx, hb⟩ := one_new (x := ⟨true, 0, l⟩) hb1
      obtain ⟨x0, x1, x2⟩ := gx.all
      dsimp only at x0 x1 x2
      replace hb := Lib.hid hb
      clear hb1
      replace gx := Lib.hid gx
      go_wp2_with fail
      (try simp only [Exit.inBlock, Exit.then])
      refine bodyPost_ret (by simp [results, Tryd.results18, go_sem]; try rfl) rfl ?_
      exact ⟨by first | rfl | rw [e2] | simp, hb.out⟩
theorem small_c (x : WI) (ho : x.Ok) : Ret 18 #[wv x] (.tuple #[.int .i64 (smallF x).1, .bool (smallF x).2]) := by
  cases hf : x.form
  · rw [show smallF x = (0, false) from if_neg (fun h => by rw [hf] at h; cases h.1)]
    exact small_bad x ho hf
  · by_cases hh : x.h = 0
    · exact small_low x ho hf hh
    · rw [show smallF x = (0, false) from if_neg (fun h => hh h.2.1)]
      exact small_high x ho hf hh
theorem cmp1_c (n : Int) : Ret 23 #[.int .i64 n] (.int .i64 (sgn n)) := fun w => by
  rcases Int.lt_trichotomy n 0 with h | h | h
  · rw [sgn_neg h]
    go_enter Tryd.func23, Tryd.ntmps23
    go_wp2_with fail
    go_ret
    exact ⟨rfl, Below.refl _ _⟩
  · subst h
    go_enter Tryd.func23, Tryd.ntmps23
    go_wp2_with fail
    go_ret
    exact ⟨rfl, Below.refl _ _⟩
  · rw [sgn_pos h]
    have h2 : ¬ n < 0 := by omega
    go_enter Tryd.func23, Tryd.ntmps23
    go_wp2_with fail
    go_ret
    exact ⟨rfl, Below.refl _ _⟩
end Go.Proofs.YtbfigpollacngaaDoor
