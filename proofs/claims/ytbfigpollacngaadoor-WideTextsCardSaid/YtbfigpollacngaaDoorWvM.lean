/- the walks over package wide: the product, whole -/
import Derived.Test.YtbfigpollacngaaDoorWvW6
namespace Go.Proofs.YtbfigpollacngaaDoor
open Go.RowKit
open Rf
open Wide

theorem two_bd {a b : Int} (a0 : 0 ≤ a) (a1 : a ≤ 18446744073709551615) (b0 : 0 ≤ b) (b1 : b ≤ 18446744073709551615) : 0 ≤ a * b ∧ a * b / 18446744073709551616 ≤ 18446744073709551615 := by
  have h1 := Int.mul_nonneg a0 b0
  have h2 : a * b ≤ 18446744073709551615 * 18446744073709551615 := Int.mul_le_mul a1 b1 b0 (by decide)
  generalize a * b = p at *
  omega
theorem mul_c (x y : WI) (ho : x.Ok) (hp : y.Ok) (w : World) : Calls Tryd.prog 11 #[wv x, wv y] w fun e w' => e = .returned (.tuple #[wv (mulF x y).1, .int .i64 (mulF x y).2]) ∧ Below w.heap.size w w' := by
  unfold mulF
  by_cases hb : (x.form && y.form) = true
  · rw [if_pos hb, prod_val x y]
    obtain ⟨n, h, l⟩ := x
    obtain ⟨m, g, k⟩ := y
    have ho' := ho
    have hp' := hp
    obtain ⟨o1, o2, o3, o4⟩ := ho'
    obtain ⟨p1, p2, p3, p4⟩ := hp'
    dsimp only at o1 o2 o3 o4 p1 p2 p3 p4
    by_cases h1 : h = 0
    · subst h1
      have e : (⟨n, 0, l⟩ : WI).sz * (⟨m, g, k⟩ : WI).sz = g * l * 18446744073709551616 + k * l := by
        unfold WI.sz
        dsimp only
        rw [Int.zero_mul, Int.zero_add, Int.mul_comm l, prod_two]
      have en : ((⟨n, 0, l⟩ : WI).n != (⟨m, g, k⟩ : WI).n) = (m != n) := by cases n <;> cases m <;> rfl
      obtain ⟨a0, a1⟩ := two_bd p3 p4 o3 o4
      obtain ⟨b0, b1⟩ := two_bd p1 p2 o3 o4
      rw [e, en, mul_says (m != n) (k * l) (g * l) a0 b0 a1 b1]
      cases hz : nil2 (g * l / 18446744073709551616) ((k * l / 18446744073709551616 + g * l % 18446744073709551616 + 0) / 18446744073709551616) with
      | true => rw [if_pos rfl]; exact mul_swap_fits n m l g k ho hp hb hz w
      | false => rw [if_neg (by decide)]; exact mul_swap_over n m l g k ho hp hb hz w
    · by_cases g1 : g = 0
      · subst g1
        have e : (⟨n, h, l⟩ : WI).sz * (⟨m, 0, k⟩ : WI).sz = h * k * 18446744073709551616 + l * k := by
          unfold WI.sz
          dsimp only
          rw [Int.zero_mul, Int.zero_add, prod_two]
        obtain ⟨a0, a1⟩ := two_bd o3 o4 p3 p4
        obtain ⟨b0, b1⟩ := two_bd o1 o2 p3 p4
        rw [e, mul_says _ (l * k) (h * k) a0 b0 a1 b1]
        cases hz : nil2 (h * k / 18446744073709551616) ((l * k / 18446744073709551616 + h * k % 18446744073709551616 + 0) / 18446744073709551616) with
        | true => rw [if_pos rfl]; exact mul_straight_fits n m h l k ho hp hb h1 hz w
        | false => rw [if_neg (by decide)]; exact mul_straight_over n m h l k ho hp hb h1 hz w
      · have hbig := big_prod (h := h) (l := l) (g := g) (k := k) (by omega) o3 (by omega) p3
        have er : R (neg ((⟨n, h, l⟩ : WI).n != (⟨m, g, k⟩ : WI).n) ((⟨n, h, l⟩ : WI).sz * (⟨m, g, k⟩ : WI).sz)) = (zero, 3) := R_out (neg_big hbig)
        rw [er]
        exact mul_both n m h l g k ho hp hb h1 g1 w
  · rw [if_neg hb]
    have cc := check_c x y ho hp false
    rw [Bool.false_and, Bool.not_false, Bool.and_true, if_neg hb] at cc
    clear hb
    replace cc := Lib.hid cc
    obtain ⟨n, h, l⟩ := x
    obtain ⟨m, g, k⟩ := y
    unfold wv zero at *
    dsimp only at *
    go_enter Tryd.func11, Tryd.ntmps11
    go_wp2_with fail
    refine (cc.out _).mono ?_
    rintro e w1 ⟨rfl, hb1⟩
    obtain ⟨gx, gy, gz, hb⟩ := three_new (x := ⟨n, h, l⟩) (y := ⟨m, g, k⟩) (z := ⟨false, 0, 0⟩) hb1
    have hs := hb.size
    obtain ⟨z0, z1, z2⟩ := gz.all
    have zf := gz.f
    obtain ⟨r0, r1, r2, hfin⟩ := last_set (w := w) (B := w.heap.size) gz ⟨false, 0, 0⟩ hb (by omega)
    dsimp only at r0 r1 r2 hfin
    replace hfin := Lib.hid hfin
    clear gx gy gz hb1 hb
    go_wp2_with fail
    (try simp only [Exit.inBlock, Exit.then])
    refine bodyPost_ret (by simp [results, Tryd.results11, go_sem, r0, r1, r2]; try rfl) rfl ?_
    exact ⟨rfl, hfin.out⟩
end Go.Proofs.YtbfigpollacngaaDoor
