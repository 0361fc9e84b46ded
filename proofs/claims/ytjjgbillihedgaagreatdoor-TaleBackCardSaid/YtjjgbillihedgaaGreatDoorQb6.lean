/- parts of the proof, merged: WvW6 -/
import Derived.Test.YtjjgbillihedgaaGreatDoorQb5
set_option maxHeartbeats 1000000
set_option maxRecDepth 10000
namespace Go.Proofs.YtjjgbillihedgaaGreatDoor
open Go.RowKit
open Rf
open Wide
theorem prod_val (x y : WI) : x.val * y.val = neg (x.n != y.n) (x.sz * y.sz) := by
 unfold WI.val neg
 cases x.n <;> cases y.n <;> simp [Int.neg_mul, Int.mul_neg]
theorem prod_two (h l k : Int) : (h * 18446744073709551616 + l) * k = h * k * 18446744073709551616 + l * k := by
 rw [Int.add_mul, Int.mul_right_comm]
theorem neg_big {b : Bool} {s : Int} (h : 170141183460469231731687303715884105728 ≤ s) : ¬ In (neg b s) = true := by
 rw [In_iff]; unfold neg; cases b <;> simp <;> omega
theorem big_prod {h l g k : Int} (h0 : 1 ≤ h) (l0 : 0 ≤ l) (g0 : 1 ≤ g) (k0 : 0 ≤ k) : 170141183460469231731687303715884105728 ≤ (h * 18446744073709551616 + l) * (g * 18446744073709551616 + k) :=
 Int.le_trans (by decide) (Int.mul_le_mul (a := 18446744073709551616) (b := 18446744073709551616) (by omega) (by omega) (by decide) (by omega))
/-- what the product's two words and what is over them say -/
theorem mul_says (b : Bool) (A B : Int) (a0 : 0 ≤ A) (b0 : 0 ≤ B) (a1 : A / 18446744073709551616 ≤ 18446744073709551615) (b1 : B / 18446744073709551616 ≤ 18446744073709551615) :
 R (neg b (B * 18446744073709551616 + A)) = if nil2 (B / 18446744073709551616) ((A / 18446744073709551616 + B % 18446744073709551616 + 0) / 18446744073709551616) = true
  then R (neg b ((A / 18446744073709551616 + B % 18446744073709551616 + 0) % 18446744073709551616 * 18446744073709551616 + A % 18446744073709551616)) else (zero, 3) := by
 split
 ·rename_i h
  obtain ⟨h1, h2⟩ := nil2_true h
  congr 2
  omega
 ·rename_i h
  have h := nil2_false (Bool.eq_false_iff.2 h)
  exact R_out (neg_big (by omega))
theorem mul_both (n m : Bool) (h l g k : Int) (ho : WI.Ok ⟨n, h, l⟩) (hp : WI.Ok ⟨m, g, k⟩) (hb : ((⟨n, h, l⟩ : WI).form && (⟨m, g, k⟩ : WI).form) = true) (h1 : h ≠ 0) (g1 : g ≠ 0) (w : World) : Calls Tryz.prog 150 #[wv ⟨n, h, l⟩, wv ⟨m, g, k⟩] w fun e w' => e = .returned (.tuple #[wv zero, .int .i64 3]) ∧ Below w.heap.size w w' := by
 have cc := check_c ⟨n, h, l⟩ ⟨m, g, k⟩ ho hp false
 rw [Bool.false_and, Bool.not_false, Bool.and_true, if_pos hb] at cc
 clear hb
 obtain ⟨o1, o2, o3, o4⟩ := ho
 obtain ⟨p1, p2, p3, p4⟩ := hp
 dsimp only at o1 o2 o3 o4 p1 p2 p3 p4
 (try unfold zero)
 unfold wv at *
 dsimp only at *
 replace cc := Hd cc
 have t1 : (h != 0) = true := by simpa using h1
 have t2 : (g != 0) = true := by simpa using g1
 have t3 : (h == 0) = false := by simpa using h1
 have t4 : (g == 0) = false := by simpa using g1
 go_enter Tryz.func150, Tryz.ntmps150
 go_wp2_with fail
 refine (cc.out _).mono ?_
 rintro e w1 ⟨rfl, hb1⟩
 obtain ⟨gx, gy, gz, hb⟩ := three_new (x := ⟨n, h, l⟩) (y := ⟨m, g, k⟩) (z := ⟨false, 0, 0⟩) hb1
 have hs := hb.size
 clear hb1
 obtain ⟨x0, x1, x2⟩ := gx.all
 obtain ⟨y0, y1, y2⟩ := gy.all
 obtain ⟨z0, z1, z2⟩ := gz.all
 have xf := gx.f
 have yf := gy.f
 have zf := gz.f
 obtain ⟨r0, r1, r2, hfin⟩ := last_set (w := w) (B := w.heap.size) gz ⟨false, 0, 0⟩ hb (by omega)
 dsimp only at r0 r1 r2 hfin
 replace hfin := Hd hfin
 dsimp only at x0 x1 x2 y0 y1 y2 z0 z1 z2
 clear gx gy gz hb
 go_wp2_with fail
 (try simp only [Exit.inBlock, Exit.then])
 refine bodyPost_ret (by simp [results, Tryz.results150, go_sem, r0, r1, r2]; try rfl) rfl ?_
 exact ⟨rfl, hfin.out⟩
theorem mul_straight_fits (n m : Bool) (h l k : Int) (ho : WI.Ok ⟨n, h, l⟩) (hp : WI.Ok ⟨m, 0, k⟩) (hb : ((⟨n, h, l⟩ : WI).form && (⟨m, 0, k⟩ : WI).form) = true) (h1 : h ≠ 0) (hz : nil2 (h * k / 18446744073709551616) ((l * k / 18446744073709551616 + h * k % 18446744073709551616 + 0) / 18446744073709551616) = true) (w : World) : Calls Tryz.prog 150 #[wv ⟨n, h, l⟩, wv ⟨m, 0, k⟩] w fun e w' => e = .returned (.tuple #[wv (R (neg (n != m) (((l * k / 18446744073709551616 + h * k % 18446744073709551616 + 0) % 18446744073709551616) * 18446744073709551616 + l * k % 18446744073709551616))).1, .int .i64 (R (neg (n != m) (((l * k / 18446744073709551616 + h * k % 18446744073709551616 + 0) % 18446744073709551616) * 18446744073709551616 + l * k % 18446744073709551616))).2]) ∧ Below w.heap.size w w' := by
 have cc := check_c ⟨n, h, l⟩ ⟨m, 0, k⟩ ho hp false
 rw [Bool.false_and, Bool.not_false, Bool.and_true, if_pos hb] at cc
 clear hb
 obtain ⟨o1, o2, o3, o4⟩ := ho
 obtain ⟨p1, p2, p3, p4⟩ := hp
 dsimp only at o1 o2 o3 o4 p1 p2 p3 p4
 (try unfold zero)
 unfold wv at *
 dsimp only at *
 replace cc := Hd cc
 have t1 : (h != 0) = true := by simpa using h1
 have t3 : (h == 0) = false := by simpa using h1
 have m1 := mul64_c l k o3 o4 p3 p4
 have m2 := mul64_c h k o1 o2 p3 p4
 have q1 : 0 ≤ l * k := Int.mul_nonneg o3 p3
 have q2 : 0 ≤ h * k := Int.mul_nonneg o1 p3
 have q3 : l * k ≤ 18446744073709551615 * 18446744073709551615 := Int.mul_le_mul o4 p4 p3 (by decide)
 have q4 : h * k ≤ 18446744073709551615 * 18446744073709551615 := Int.mul_le_mul o2 p4 p3 (by decide)
 generalize l * k = a at *
 generalize h * k = b at *
 obtain ⟨hi, hhi⟩ : ∃ hi, a / 18446744073709551616 = hi := ⟨_, rfl⟩
 obtain ⟨lo, hlo⟩ : ∃ lo, a % 18446744073709551616 = lo := ⟨_, rfl⟩
 obtain ⟨ov, hov⟩ : ∃ ov, b / 18446744073709551616 = ov := ⟨_, rfl⟩
 obtain ⟨mi, hmi⟩ : ∃ mi, b % 18446744073709551616 = mi := ⟨_, rfl⟩
 rw [hhi, hlo] at m1
 rw [hov, hmi] at m2
 rw [hov, hhi, hmi] at hz
 rw [hhi, hmi, hlo]
 have ma := fun w => run_add64_here hi mi 0 (by omega) (by omega) (by omega) (by omega) w
 obtain ⟨su, hsu⟩ : ∃ su, (hi + mi + 0) % 18446744073709551616 = su := ⟨_, rfl⟩
 obtain ⟨ca, hca⟩ : ∃ ca, (hi + mi + 0) / 18446744073709551616 = ca := ⟨_, rfl⟩
 rw [hsu, hca] at ma
 rw [hca] at hz
 rw [hsu]
 have t : (bits .or .u64 ov ca != 0) = false := by rw [bne, or_nil ov ca (by omega) (by omega) (by omega) (by omega), hz]; rfl
 have cf := Hd (fit_c (n != m) su lo (by omega) (by omega) (by omega) (by omega))
 generalize R (neg (n != m) (su * 18446744073709551616 + lo)) = r at *
 obtain ⟨⟨rn, rh, rl⟩, rc⟩ := r
 unfold wv at *
 dsimp only at *
 replace m1 := Hd m1
 replace m2 := Hd m2
 clear hhi hlo hov hmi hsu hca hz q1 q2 q3 q4
 go_enter Tryz.func150, Tryz.ntmps150
 go_wp2_with fail
 refine (cc.out _).mono ?_
 rintro e w1 ⟨rfl, hb1⟩
 obtain ⟨gx, gy, gz, hb⟩ := three_new (x := ⟨n, h, l⟩) (y := ⟨m, 0, k⟩) (z := ⟨false, 0, 0⟩) hb1
 have hs := hb.size
 clear hb1
 obtain ⟨x0, x1, x2⟩ := gx.all
 obtain ⟨y0, y1, y2⟩ := gy.all
 dsimp only at x0 x1 x2 y0 y1 y2
 replace gz := Hd gz
 replace hb := Hd hb
 clear gx gy
 go_wp2_with fail
 refine (m1.out _).mono ?_
 rintro e w2 ⟨rfl, rfl⟩
 go_wp2_with fail
 refine (m2.out _).mono ?_
 rintro e w2 ⟨rfl, rfl⟩
 go_wp2_with fail
 refine (cf.out _).mono ?_
 rintro e w9 ⟨rfl, hb9⟩
 have gz9 := gz.out.below hb9
 obtain ⟨z0, z1, z2⟩ := gz9.all
 have zf := gz9.f
 obtain ⟨r0, r1, r2, hfin⟩ := last_set (w := w) (B := w.heap.size) gz9 ⟨rn, rh, rl⟩ (hb.out.trans (hb9.mono hs)) (by omega)
 dsimp only at r0 r1 r2 hfin
 replace hfin := Hd hfin
 clear gz gz9 hb9 hb
 go_wp2_with fail
 (try simp only [Exit.inBlock, Exit.then])
 refine bodyPost_ret (by simp [results, Tryz.results150, go_sem, r0, r1, r2]; try rfl) rfl ?_
 exact ⟨rfl, hfin.out⟩
theorem mul_straight_over (n m : Bool) (h l k : Int) (ho : WI.Ok ⟨n, h, l⟩) (hp : WI.Ok ⟨m, 0, k⟩) (hb : ((⟨n, h, l⟩ : WI).form && (⟨m, 0, k⟩ : WI).form) = true) (h1 : h ≠ 0) (hz : nil2 (h * k / 18446744073709551616) ((l * k / 18446744073709551616 + h * k % 18446744073709551616 + 0) / 18446744073709551616) = false) (w : World) : Calls Tryz.prog 150 #[wv ⟨n, h, l⟩, wv ⟨m, 0, k⟩] w fun e w' => e = .returned (.tuple #[wv zero, .int .i64 3]) ∧ Below w.heap.size w w' := by
 have cc := check_c ⟨n, h, l⟩ ⟨m, 0, k⟩ ho hp false
 rw [Bool.false_and, Bool.not_false, Bool.and_true, if_pos hb] at cc
 clear hb
 obtain ⟨o1, o2, o3, o4⟩ := ho
 obtain ⟨p1, p2, p3, p4⟩ := hp
 dsimp only at o1 o2 o3 o4 p1 p2 p3 p4
 (try unfold zero)
 unfold wv at *
 dsimp only at *
 replace cc := Hd cc
 have t1 : (h != 0) = true := by simpa using h1
 have t3 : (h == 0) = false := by simpa using h1
 have m1 := mul64_c l k o3 o4 p3 p4
 have m2 := mul64_c h k o1 o2 p3 p4
 have q1 : 0 ≤ l * k := Int.mul_nonneg o3 p3
 have q2 : 0 ≤ h * k := Int.mul_nonneg o1 p3
 have q3 : l * k ≤ 18446744073709551615 * 18446744073709551615 := Int.mul_le_mul o4 p4 p3 (by decide)
 have q4 : h * k ≤ 18446744073709551615 * 18446744073709551615 := Int.mul_le_mul o2 p4 p3 (by decide)
 generalize l * k = a at *
 generalize h * k = b at *
 obtain ⟨hi, hhi⟩ : ∃ hi, a / 18446744073709551616 = hi := ⟨_, rfl⟩
 obtain ⟨lo, hlo⟩ : ∃ lo, a % 18446744073709551616 = lo := ⟨_, rfl⟩
 obtain ⟨ov, hov⟩ : ∃ ov, b / 18446744073709551616 = ov := ⟨_, rfl⟩
 obtain ⟨mi, hmi⟩ : ∃ mi, b % 18446744073709551616 = mi := ⟨_, rfl⟩
 rw [hhi, hlo] at m1
 rw [hov, hmi] at m2
 rw [hov, hhi, hmi] at hz
 have ma := fun w => run_add64_here hi mi 0 (by omega) (by omega) (by omega) (by omega) w
 obtain ⟨su, hsu⟩ : ∃ su, (hi + mi + 0) % 18446744073709551616 = su := ⟨_, rfl⟩
 obtain ⟨ca, hca⟩ : ∃ ca, (hi + mi + 0) / 18446744073709551616 = ca := ⟨_, rfl⟩
 rw [hsu, hca] at ma
 rw [hca] at hz
 have t : (bits .or .u64 ov ca != 0) = true := by rw [bne, or_nil ov ca (by omega) (by omega) (by omega) (by omega), hz]; rfl
 replace m1 := Hd m1
 replace m2 := Hd m2
 clear hhi hlo hov hmi hsu hca hz q1 q2 q3 q4
 go_enter Tryz.func150, Tryz.ntmps150
 go_wp2_with fail
 refine (cc.out _).mono ?_
 rintro e w1 ⟨rfl, hb1⟩
 obtain ⟨gx, gy, gz, hb⟩ := three_new (x := ⟨n, h, l⟩) (y := ⟨m, 0, k⟩) (z := ⟨false, 0, 0⟩) hb1
 have hs := hb.size
 clear hb1
 obtain ⟨x0, x1, x2⟩ := gx.all
 obtain ⟨y0, y1, y2⟩ := gy.all
 dsimp only at x0 x1 x2 y0 y1 y2
 replace gz := Hd gz
 replace hb := Hd hb
 clear gx gy
 go_wp2_with fail
 refine (m1.out _).mono ?_
 rintro e w2 ⟨rfl, rfl⟩
 go_wp2_with fail
 refine (m2.out _).mono ?_
 rintro e w2 ⟨rfl, rfl⟩
 have gz9 := gz.out
 obtain ⟨z0, z1, z2⟩ := gz9.all
 have zf := gz9.f
 obtain ⟨r0, r1, r2, hfin⟩ := last_set (w := w) (B := w.heap.size) gz9 ⟨false, 0, 0⟩ hb.out (by omega)
 dsimp only at r0 r1 r2 hfin
 replace hfin := Hd hfin
 clear gz gz9 hb
 go_wp2_with fail
 (try simp only [Exit.inBlock, Exit.then])
 refine bodyPost_ret (by simp [results, Tryz.results150, go_sem, r0, r1, r2]; try rfl) rfl ?_
 exact ⟨rfl, hfin.out⟩
theorem mul_swap_fits (n m : Bool) (l g k : Int) (ho : WI.Ok ⟨n, 0, l⟩) (hp : WI.Ok ⟨m, g, k⟩) (hb : ((⟨n, 0, l⟩ : WI).form && (⟨m, g, k⟩ : WI).form) = true) (hz : nil2 (g * l / 18446744073709551616) ((k * l / 18446744073709551616 + g * l % 18446744073709551616 + 0) / 18446744073709551616) = true) (w : World) : Calls Tryz.prog 150 #[wv ⟨n, 0, l⟩, wv ⟨m, g, k⟩] w fun e w' => e = .returned (.tuple #[wv (R (neg (m != n) (((k * l / 18446744073709551616 + g * l % 18446744073709551616 + 0) % 18446744073709551616) * 18446744073709551616 + k * l % 18446744073709551616))).1, .int .i64 (R (neg (m != n) (((k * l / 18446744073709551616 + g * l % 18446744073709551616 + 0) % 18446744073709551616) * 18446744073709551616 + k * l % 18446744073709551616))).2]) ∧ Below w.heap.size w w' := by
 have cc := check_c ⟨n, 0, l⟩ ⟨m, g, k⟩ ho hp false
 rw [Bool.false_and, Bool.not_false, Bool.and_true, if_pos hb] at cc
 clear hb
 obtain ⟨o1, o2, o3, o4⟩ := ho
 obtain ⟨p1, p2, p3, p4⟩ := hp
 dsimp only at o1 o2 o3 o4 p1 p2 p3 p4
 (try unfold zero)
 unfold wv at *
 dsimp only at *
 replace cc := Hd cc
 have m1 := mul64_c k l p3 p4 o3 o4
 have m2 := mul64_c g l p1 p2 o3 o4
 have q1 : 0 ≤ k * l := Int.mul_nonneg p3 o3
 have q2 : 0 ≤ g * l := Int.mul_nonneg p1 o3
 have q3 : k * l ≤ 18446744073709551615 * 18446744073709551615 := Int.mul_le_mul p4 o4 o3 (by decide)
 have q4 : g * l ≤ 18446744073709551615 * 18446744073709551615 := Int.mul_le_mul p2 o4 o3 (by decide)
 generalize k * l = a at *
 generalize g * l = b at *
 obtain ⟨hi, hhi⟩ : ∃ hi, a / 18446744073709551616 = hi := ⟨_, rfl⟩
 obtain ⟨lo, hlo⟩ : ∃ lo, a % 18446744073709551616 = lo := ⟨_, rfl⟩
 obtain ⟨ov, hov⟩ : ∃ ov, b / 18446744073709551616 = ov := ⟨_, rfl⟩
 obtain ⟨mi, hmi⟩ : ∃ mi, b % 18446744073709551616 = mi := ⟨_, rfl⟩
 rw [hhi, hlo] at m1
 rw [hov, hmi] at m2
 rw [hov, hhi, hmi] at hz
 rw [hhi, hmi, hlo]
 have ma := fun w => run_add64_here hi mi 0 (by omega) (by omega) (by omega) (by omega) w
 obtain ⟨su, hsu⟩ : ∃ su, (hi + mi + 0) % 18446744073709551616 = su := ⟨_, rfl⟩
 obtain ⟨ca, hca⟩ : ∃ ca, (hi + mi + 0) / 18446744073709551616 = ca := ⟨_, rfl⟩
 rw [hsu, hca] at ma
 rw [hca] at hz
 rw [hsu]
 have t : (bits .or .u64 ov ca != 0) = false := by rw [bne, or_nil ov ca (by omega) (by omega) (by omega) (by omega), hz]; rfl
 have cf := Hd (fit_c (m != n) su lo (by omega) (by omega) (by omega) (by omega))
 generalize R (neg (m != n) (su * 18446744073709551616 + lo)) = r at *
 obtain ⟨⟨rn, rh, rl⟩, rc⟩ := r
 unfold wv at *
 dsimp only at *
 replace m1 := Hd m1
 replace m2 := Hd m2
 clear hhi hlo hov hmi hsu hca hz q1 q2 q3 q4
 go_enter Tryz.func150, Tryz.ntmps150
 go_wp2_with fail
 refine (cc.out _).mono ?_
 rintro e w1 ⟨rfl, hb1⟩
 obtain ⟨gx, gy, gz, hb⟩ := three_new (x := ⟨n, 0, l⟩) (y := ⟨m, g, k⟩) (z := ⟨false, 0, 0⟩) hb1
 have hs := hb.size
 clear hb1
 have vx := (gx.set m g k).set3_other (c := w.heap.size + 1) (v0 := .bool n) (v1 := .int .u64 0) (v2 := .int .u64 l) (by omega)
 have vy := (gy.set3_other (c := w.heap.size) (v0 := .bool m) (v1 := .int .u64 g) (v2 := .int .u64 k) (by omega)).set n 0 l
 have vz := (gz.set3_other (c := w.heap.size) (v0 := .bool m) (v1 := .int .u64 g) (v2 := .int .u64 k) (by omega)).set3_other (c := w.heap.size + 1) (v0 := .bool n) (v1 := .int .u64 0) (v2 := .int .u64 l) (by omega)
 obtain ⟨x0, x1, x2⟩ := gx.all
 obtain ⟨y0, y1, y2⟩ := gy.all
 have xf := gx.f
 obtain ⟨s0, s1, s2⟩ := (gx.set m g k).all
 obtain ⟨u0, u1, u2⟩ := (gy.set3_other (c := w.heap.size) (v0 := .bool m) (v1 := .int .u64 g) (v2 := .int .u64 k) (by omega)).all
 have uf := (gy.set3_other (c := w.heap.size) (v0 := .bool m) (v1 := .int .u64 g) (v2 := .int .u64 k) (by omega)).f
 have hb3 := below_set3 (below_set3 hb (b := w.heap.size) (by omega) (.bool m) (.int .u64 g) (.int .u64 k)) (b := w.heap.size + 1) (by omega) (.bool n) (.int .u64 0) (.int .u64 l)
 have hs3 := hb3.size
 obtain ⟨a0, a1, a2⟩ := vx.all
 obtain ⟨b0, b1, b2⟩ := vy.all
 dsimp only at x0 x1 x2 y0 y1 y2 s0 s1 s2 u0 u1 u2 a0 a1 a2 b0 b1 b2
 replace vx := Hd vx
 replace vy := Hd vy
 replace vz := Hd vz
 replace hb3 := Hd hb3
 clear gx gy gz hb
 go_wp2_with fail
 refine (m1.out _).mono ?_
 rintro e w2 ⟨rfl, hw2⟩
 clear x0 x1 x2 y0 y1 y2 s0 s1 s2 u0 u1 u2 a0 a1 a2 b0 b1 b2 xf uf
 have gx : IsN w2 w.heap.size ⟨m, g, k⟩ := by rw [← hw2]; exact vx.out
 have gy : IsN w2 (w.heap.size + 1) ⟨n, 0, l⟩ := by rw [← hw2]; exact vy.out
 have gz : IsN w2 (w.heap.size + 2) ⟨false, 0, 0⟩ := by rw [← hw2]; exact vz.out
 have hb : Below w.heap.size w w2 := by rw [← hw2]; exact hb3.out
 have hs := hb.size
 clear hw2 vx vy vz hb3 hs3
 obtain ⟨x0, x1, x2⟩ := gx.all
 obtain ⟨y0, y1, y2⟩ := gy.all
 dsimp only at x0 x1 x2 y0 y1 y2
 replace gz := Hd gz
 replace hb := Hd hb
 clear gx gy
 go_wp2_with fail
 refine (m2.out _).mono ?_
 rintro e w2 ⟨rfl, rfl⟩
 go_wp2_with fail
 refine (cf.out _).mono ?_
 rintro e w9 ⟨rfl, hb9⟩
 have gz9 := gz.out.below hb9
 obtain ⟨z0, z1, z2⟩ := gz9.all
 have zf := gz9.f
 obtain ⟨r0, r1, r2, hfin⟩ := last_set (w := w) (B := w.heap.size) gz9 ⟨rn, rh, rl⟩ (hb.out.trans (hb9.mono hs)) (by omega)
 dsimp only at r0 r1 r2 hfin
 replace hfin := Hd hfin
 clear gz gz9 hb9 hb
 go_wp2_with fail
 (try simp only [Exit.inBlock, Exit.then])
 refine bodyPost_ret (by simp [results, Tryz.results150, go_sem, r0, r1, r2]; try rfl) rfl ?_
 exact ⟨rfl, hfin.out⟩
theorem mul_swap_over (n m : Bool) (l g k : Int) (ho : WI.Ok ⟨n, 0, l⟩) (hp : WI.Ok ⟨m, g, k⟩) (hb : ((⟨n, 0, l⟩ : WI).form && (⟨m, g, k⟩ : WI).form) = true) (hz : nil2 (g * l / 18446744073709551616) ((k * l / 18446744073709551616 + g * l % 18446744073709551616 + 0) / 18446744073709551616) = false) (w : World) : Calls Tryz.prog 150 #[wv ⟨n, 0, l⟩, wv ⟨m, g, k⟩] w fun e w' => e = .returned (.tuple #[wv zero, .int .i64 3]) ∧ Below w.heap.size w w' := by
 have cc := check_c ⟨n, 0, l⟩ ⟨m, g, k⟩ ho hp false
 rw [Bool.false_and, Bool.not_false, Bool.and_true, if_pos hb] at cc
 clear hb
 obtain ⟨o1, o2, o3, o4⟩ := ho
 obtain ⟨p1, p2, p3, p4⟩ := hp
 dsimp only at o1 o2 o3 o4 p1 p2 p3 p4
 (try unfold zero)
 unfold wv at *
 dsimp only at *
 replace cc := Hd cc
 have m1 := mul64_c k l p3 p4 o3 o4
 have m2 := mul64_c g l p1 p2 o3 o4
 have q1 : 0 ≤ k * l := Int.mul_nonneg p3 o3
 have q2 : 0 ≤ g * l := Int.mul_nonneg p1 o3
 have q3 : k * l ≤ 18446744073709551615 * 18446744073709551615 := Int.mul_le_mul p4 o4 o3 (by decide)
 have q4 : g * l ≤ 18446744073709551615 * 18446744073709551615 := Int.mul_le_mul p2 o4 o3 (by decide)
 generalize k * l = a at *
 generalize g * l = b at *
 obtain ⟨hi, hhi⟩ : ∃ hi, a / 18446744073709551616 = hi := ⟨_, rfl⟩
 obtain ⟨lo, hlo⟩ : ∃ lo, a % 18446744073709551616 = lo := ⟨_, rfl⟩
 obtain ⟨ov, hov⟩ : ∃ ov, b / 18446744073709551616 = ov := ⟨_, rfl⟩
 obtain ⟨mi, hmi⟩ : ∃ mi, b % 18446744073709551616 = mi := ⟨_, rfl⟩
 rw [hhi, hlo] at m1
 rw [hov, hmi] at m2
 rw [hov, hhi, hmi] at hz
 have ma := fun w => run_add64_here hi mi 0 (by omega) (by omega) (by omega) (by omega) w
 obtain ⟨su, hsu⟩ : ∃ su, (hi + mi + 0) % 18446744073709551616 = su := ⟨_, rfl⟩
 obtain ⟨ca, hca⟩ : ∃ ca, (hi + mi + 0) / 18446744073709551616 = ca := ⟨_, rfl⟩
 rw [hsu, hca] at ma
 rw [hca] at hz
 have t : (bits .or .u64 ov ca != 0) = true := by rw [bne, or_nil ov ca (by omega) (by omega) (by omega) (by omega), hz]; rfl
 replace m1 := Hd m1
 replace m2 := Hd m2
 clear hhi hlo hov hmi hsu hca hz q1 q2 q3 q4
 go_enter Tryz.func150, Tryz.ntmps150
 go_wp2_with fail
 refine (cc.out _).mono ?_
 rintro e w1 ⟨rfl, hb1⟩
 obtain ⟨gx, gy, gz, hb⟩ := three_new (x := ⟨n, 0, l⟩) (y := ⟨m, g, k⟩) (z := ⟨false, 0, 0⟩) hb1
 have hs := hb.size
 clear hb1
 have vx := (gx.set m g k).set3_other (c := w.heap.size + 1) (v0 := .bool n) (v1 := .int .u64 0) (v2 := .int .u64 l) (by omega)
 have vy := (gy.set3_other (c := w.heap.size) (v0 := .bool m) (v1 := .int .u64 g) (v2 := .int .u64 k) (by omega)).set n 0 l
 have vz := (gz.set3_other (c := w.heap.size) (v0 := .bool m) (v1 := .int .u64 g) (v2 := .int .u64 k) (by omega)).set3_other (c := w.heap.size + 1) (v0 := .bool n) (v1 := .int .u64 0) (v2 := .int .u64 l) (by omega)
 obtain ⟨x0, x1, x2⟩ := gx.all
 obtain ⟨y0, y1, y2⟩ := gy.all
 have xf := gx.f
 obtain ⟨s0, s1, s2⟩ := (gx.set m g k).all
 obtain ⟨u0, u1, u2⟩ := (gy.set3_other (c := w.heap.size) (v0 := .bool m) (v1 := .int .u64 g) (v2 := .int .u64 k) (by omega)).all
 have uf := (gy.set3_other (c := w.heap.size) (v0 := .bool m) (v1 := .int .u64 g) (v2 := .int .u64 k) (by omega)).f
 have hb3 := below_set3 (below_set3 hb (b := w.heap.size) (by omega) (.bool m) (.int .u64 g) (.int .u64 k)) (b := w.heap.size + 1) (by omega) (.bool n) (.int .u64 0) (.int .u64 l)
 have hs3 := hb3.size
 obtain ⟨a0, a1, a2⟩ := vx.all
 obtain ⟨b0, b1, b2⟩ := vy.all
 dsimp only at x0 x1 x2 y0 y1 y2 s0 s1 s2 u0 u1 u2 a0 a1 a2 b0 b1 b2
 replace vx := Hd vx
 replace vy := Hd vy
 replace vz := Hd vz
 replace hb3 := Hd hb3
 clear gx gy gz hb
 go_wp2_with fail
 refine (m1.out _).mono ?_
 rintro e w2 ⟨rfl, hw2⟩
 clear x0 x1 x2 y0 y1 y2 s0 s1 s2 u0 u1 u2 a0 a1 a2 b0 b1 b2 xf uf
 have gx : IsN w2 w.heap.size ⟨m, g, k⟩ := by rw [← hw2]; exact vx.out
 have gy : IsN w2 (w.heap.size + 1) ⟨n, 0, l⟩ := by rw [← hw2]; exact vy.out
 have gz : IsN w2 (w.heap.size + 2) ⟨false, 0, 0⟩ := by rw [← hw2]; exact vz.out
 have hb : Below w.heap.size w w2 := by rw [← hw2]; exact hb3.out
 have hs := hb.size
 clear hw2 vx vy vz hb3 hs3
 obtain ⟨x0, x1, x2⟩ := gx.all
 obtain ⟨y0, y1, y2⟩ := gy.all
 dsimp only at x0 x1 x2 y0 y1 y2
 replace gz := Hd gz
 replace hb := Hd hb
 clear gx gy
 go_wp2_with fail
 refine (m2.out _).mono ?_
 rintro e w2 ⟨rfl, rfl⟩
 have gz9 := gz.out
 obtain ⟨z0, z1, z2⟩ := gz9.all
 have zf := gz9.f
 obtain ⟨r0, r1, r2, hfin⟩ := last_set (w := w) (B := w.heap.size) gz9 ⟨false, 0, 0⟩ hb.out (by omega)
 dsimp only at r0 r1 r2 hfin
 replace hfin := Hd hfin
 clear gz gz9 hb
 go_wp2_with fail
 (try simp only [Exit.inBlock, Exit.then])
 refine bodyPost_ret (by simp [results, Tryz.results150, go_sem, r0, r1, r2]; try rfl) rfl ?_
 exact ⟨rfl, hfin.out⟩
end Go.Proofs.YtjjgbillihedgaaGreatDoor
