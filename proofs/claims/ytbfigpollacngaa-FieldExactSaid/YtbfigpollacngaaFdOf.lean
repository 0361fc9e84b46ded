/- the walks over package wide, an int's number (the Field seat) -/
import Derived.Test.YtbfigpollacngaaWvM
namespace Go.Proofs.Ytbfigpollacngaa
open Go.RowKit
open Rf
open Wide

theorem mk_nonneg (n : Int) (h0 : 0 ≤ n) (h1 : n ≤ 18446744073709551615) : mk n = ⟨false, 0, n⟩ := by
  unfold mk
  rw [decide_eq_false (by omega)]
  congr 1 <;> omega
theorem mk_negw (n : Int) (h0 : n < 0) (h1 : -18446744073709551615 ≤ n) : made true 0 (-n) = mk n := by
  rw [made_mk _ _ _ (by omega) (by omega) (by omega)]
  congr 1
  unfold neg
  rw [if_pos rfl]
  omega
set_option maxRecDepth 10000 in
set_option maxHeartbeats 1000000 in
theorem of_c (n : Int) (h0 : -9223372036854775808 ≤ n) (h1 : n ≤ 9223372036854775807) (w : World) : Calls Try.prog 27 #[.int .i64 n] w fun e w' => e = .returned (wv (mk n)) ∧ Below w.heap.size w w' := by
  by_cases hn : n < 0
  · have cm := made_c true 0 (-n) (by omega) (by omega) (by omega) (by omega)
    rw [mk_negw n hn (by omega)] at cm
    have e1 : IntKind.u64.wrap (-(IntKind.u64.wrap n)) = -n := by simp [IntKind.wrap, IntKind.bits, IntKind.signed]; omega
    generalize mk n = r at *
    obtain ⟨rn, rh, rl⟩ := r
    unfold wv at *
    dsimp only at *
    replace cm := Lib.hid cm
    go_enter Try.func27, Try.ntmps27
    go_wp2_with fail
    refine (cm.out _).mono ?_
    rintro e w3 ⟨rfl, hb3⟩
    obtain ⟨gz, hb4⟩ := one_new (x := ⟨false, 0, 0⟩) hb3
    have hs := hb4.size
    obtain ⟨z0, z1, z2⟩ := gz.all
    have zf := gz.f
    obtain ⟨r0, r1, r2, hfin⟩ := last_set (w := w) (B := w.heap.size) gz ⟨rn, rh, rl⟩ hb4 (by omega)
    dsimp only at r0 r1 r2 hfin
    replace hfin := Lib.hid hfin
    clear gz hb3 hb4
    go_wp2_with fail
    (try simp only [Exit.inBlock, Exit.then])
    refine bodyPost_ret (by simp [results, Try.results27, go_sem, r0, r1, r2]; try rfl) rfl ?_
    exact ⟨rfl, hfin.out⟩
  · rw [mk_nonneg n (by omega) (by omega)]
    have cm := ofWord_c n
    have e1 : IntKind.u64.wrap n = n := by simp [IntKind.wrap, IntKind.bits, IntKind.signed]; omega
    unfold wv at *
    dsimp only at *
    replace cm := Lib.hid cm
    go_enter Try.func27, Try.ntmps27
    go_wp2_with fail
    refine (cm.out _).mono ?_
    rintro e w3 ⟨rfl, hb3⟩
    obtain ⟨gz, hb4⟩ := one_new (x := ⟨false, 0, 0⟩) hb3
    have hs := hb4.size
    obtain ⟨z0, z1, z2⟩ := gz.all
    have zf := gz.f
    obtain ⟨r0, r1, r2, hfin⟩ := last_set (w := w) (B := w.heap.size) gz ⟨false, 0, n⟩ hb4 (by omega)
    dsimp only at r0 r1 r2 hfin
    replace hfin := Lib.hid hfin
    clear gz hb3 hb4
    go_wp2_with fail
    (try simp only [Exit.inBlock, Exit.then])
    refine bodyPost_ret (by simp [results, Try.results27, go_sem, r0, r1, r2]; try rfl) rfl ?_
    exact ⟨rfl, hfin.out⟩

end Go.Proofs.Ytbfigpollacngaa
