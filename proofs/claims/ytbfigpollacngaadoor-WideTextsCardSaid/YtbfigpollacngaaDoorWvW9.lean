/- the walks over package wide, ninth part: an int's number, the sign -/
import Derived.Test.YtbfigpollacngaaDoorWvW8
namespace Go.Proofs.YtbfigpollacngaaDoor
open Go.RowKit
open Rf
open Wide

theorem mk_nonneg (n : Int) (h0 : 0 ≤ n) (h1 : n ≤ 18446744073709551615) : mk n = ⟨false, 0, n⟩ := by
  unfold mk
  rw [decide_eq_false (by omega)]
  congr 1 <;> omega
theorem mk_negw (n : Int) (h0 : n < 0) (h1 : -18446744073709551615 ≤ n) : made true 0 (-n) = mk n := by
  rw [made_mk _ _ _ (by omega) (by omega) (by omega)]
  congr 1
  unfold neg
  rw [if_pos rfl]
  omega
set_option maxRecDepth 10000 in
set_option maxHeartbeats 1000000 in
theorem of_c (n : Int) (h0 : -9223372036854775808 ≤ n) (h1 : n ≤ 9223372036854775807) (w : World) : Calls Tryd.prog 20 #[.int .i64 n] w fun e w' => e = .returned (wv (mk n)) ∧ Below w.heap.size w w' := by
  by_cases hn : n < 0
  · have cm := made_c true 0 (-n) (by omega) (by omega) (by omega) (by omega)
    rw [mk_negw n hn (by omega)] at cm
    have e1 : IntKind.u64.wrap (-(IntKind.u64.wrap n)) = -n := by simp [IntKind.wrap, IntKind.bits, IntKind.signed]; omega
    generalize mk n = r at *
    obtain ⟨rn, rh, rl⟩ := r
    unfold wv at *
    dsimp only at *
    replace cm := Lib.hid cm
    go_enter Tryd.func20, Tryd.ntmps20
    go_wp2_with fail
    refine (cm.out _).mono ?_
    rintro e w3 ⟨rfl, hb3⟩
    obtain ⟨gz, hb4⟩ := one_new (x := ⟨false, 0, 0⟩) hb3
    have hs := hb4.size
    obtain ⟨z0, z1, z2⟩ := gz.all
    have zf := gz.f
    obtain ⟨r0, r1, r2, hfin⟩ := last_set (w := w) (B := w.heap.size) gz ⟨rn, rh, rl⟩ hb4 (by omega)
    dsimp only at r0 r1 r2 hfin
    replace hfin := Lib.hid hfin
    clear gz hb3 hb4
    go_wp2_with fail
    (try simp only [Exit.inBlock, Exit.then])
    refine bodyPost_ret (by simp [results, Tryd.results20, go_sem, r0, r1, r2]; try rfl) rfl ?_
    exact ⟨rfl, hfin.out⟩
  · rw [mk_nonneg n (by omega) (by omega)]
    have cm := ofWord_c n
    have e1 : IntKind.u64.wrap n = n := by simp [IntKind.wrap, IntKind.bits, IntKind.signed]; omega
    unfold wv at *
    dsimp only at *
    replace cm := Lib.hid cm
    go_enter Tryd.func20, Tryd.ntmps20
    go_wp2_with fail
    refine (cm.out _).mono ?_
    rintro e w3 ⟨rfl, hb3⟩
    obtain ⟨gz, hb4⟩ := one_new (x := ⟨false, 0, 0⟩) hb3
    have hs := hb4.size
    obtain ⟨z0, z1, z2⟩ := gz.all
    have zf := gz.f
    obtain ⟨r0, r1, r2, hfin⟩ := last_set (w := w) (B := w.heap.size) gz ⟨false, 0, n⟩ hb4 (by omega)
    dsimp only at r0 r1 r2 hfin
    replace hfin := Lib.hid hfin
    clear gz hb3 hb4
    go_wp2_with fail
    (try simp only [Exit.inBlock, Exit.then])
    refine bodyPost_ret (by simp [results, Tryd.results20, go_sem, r0, r1, r2]; try rfl) rfl ?_
    exact ⟨rfl, hfin.out⟩

theorem sgn_val (x : WI) (ho : x.Ok) (hf : x.form = true) : sgn x.val = if nil2 x.h x.l = true then 0 else if x.n = true then -1 else 1 := by
  have hb := sz_bd ho hf
  have hz := sz_zero ho
  by_cases h : nil2 x.h x.l = true
  · rw [if_pos h]
    have : x.val = 0 := by unfold WI.val; rw [hz.2 h]; split <;> rfl
    rw [this]; rfl
  · rw [if_neg h]
    have : x.sz ≠ 0 := fun hh => h (hz.1 hh)
    unfold WI.val
    by_cases hn : x.n = true
    · rw [if_pos hn, if_pos hn]; exact sgn_neg (by omega)
    · rw [if_neg hn, if_neg hn]; exact sgn_pos (by omega)
set_option maxRecDepth 10000 in
set_option maxHeartbeats 1000000 in
theorem sign_c (x : WI) (ho : x.Ok) (w : World) : Calls Tryd.prog 22 #[wv x] w fun e w' => e = .returned (.int .i64 (signF x)) ∧ Below w.heap.size w w' := by
  have cx := form_c x ho
  have t := or_nil x.h x.l ho.1 ho.2.1 ho.2.2.1 ho.2.2.2
  have key := sgn_val x ho
  unfold signF
  generalize sgn x.val = v at *
  generalize x.form = f at *
  generalize nil2 x.h x.l = z at *
  clear ho
  obtain ⟨n, h, l⟩ := x
  unfold wv at *
  dsimp only at *
  replace cx := Lib.hid cx
  cases f with
  | false =>
    clear key t
    go_enter Tryd.func22, Tryd.ntmps22
    go_wp2_with fail
    refine (cx.out _).mono ?_
    rintro e w1 ⟨rfl, hb1⟩
    obtain ⟨gx, hb⟩ := one_new (x := ⟨n, h, l⟩) hb1
    clear gx hb1
    go_wp2_with fail
    go_ret
    exact ⟨rfl, hb⟩
  | true =>
    rw [if_pos rfl, key rfl]
    clear key
    cases z <;> cases n <;> simp only [if_true, if_false, Bool.false_eq_true]
    all_goals
      go_enter Tryd.func22, Tryd.ntmps22
      go_wp2_with fail
      refine (cx.out _).mono ?_
      rintro e w1 ⟨rfl, hb1⟩
      obtain ⟨gx, hb⟩ := one_new (x := ⟨_, h, l⟩) hb1
      obtain ⟨x0, x1, x2⟩ := gx.all
      dsimp only at x0 x1 x2
      replace hb := Lib.hid hb
      clear hb1 gx
      go_wp2_with fail
      go_ret
      exact ⟨rfl, hb.out⟩
end Go.Proofs.YtbfigpollacngaaDoor
