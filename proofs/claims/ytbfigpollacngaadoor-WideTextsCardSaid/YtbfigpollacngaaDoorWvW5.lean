/- the walks over package wide, fifth part -/
import Derived.Test.YtbfigpollacngaaDoorWvW4
import Derived.Shelf.Bits.Mul64
import Derived.Deep.RegionHeld3
import Derived.Deep.DrawnRows
namespace Go.Proofs.YtbfigpollacngaaDoor
open Go.RowKit
open Rf
open Wide
attribute [local go_sem ↓] Go.wp_at_zero Go.wp_at_succ

theorem negF_of {x : WI} (hf : x.form = true) : negF x = mk (-x.val) := if_pos hf
theorem In_neg {v : Int} (h : In v = true) : In (-v) = true := by rw [In_iff] at h ⊢; omega

theorem IsN.drew {w : World} {b : Nat} {x : WI} (h : IsN w b x) : IsN w.drew b x := h
theorem below_drewed {B : Nat} {a w : World} (h : Below B a w) : Below B a w.drew := h.trans ⟨rfl, rfl, rfl, Nat.le_refl _, fun _ _ => rfl⟩

set_option maxRecDepth 10000 in
set_option maxHeartbeats 8000000 in
theorem sub_c (x y : WI) (ho : x.Ok) (hp : y.Ok) (w : World) : Calls Tryd.prog 24 #[wv x, wv y] w fun e w' => e = .returned (.tuple #[wv (subF x y).1, .int .i64 (subF x y).2]) ∧ Below w.heap.size w w' := by
  have cc := check_c x y ho hp false
  rw [Bool.false_and, Bool.not_false, Bool.and_true] at cc
  unfold subF
  by_cases hb : (x.form && y.form) = true
  · rw [if_pos hb] at cc ⊢
    obtain ⟨hf, hg⟩ : x.form = true ∧ y.form = true := by simpa using hb
    have hi := In_neg (val_in hp hg)
    have cn := neg_c y hp
    rw [negF_of hg] at cn
    have ca := add_c x (mk (-y.val)) ho (mk_ok _ hi)
    have ea : addF x (mk (-y.val)) = R (x.val - y.val) := by
      unfold addF
      rw [hf, mk_form _ hi, mk_val]
      rfl
    rw [ea] at ca
    clear ea hi hb hf hg ho hp
    generalize mk (-y.val) = v at *
    generalize R (x.val - y.val) = r at *
    obtain ⟨⟨rn, rh, rl⟩, rc⟩ := r
    obtain ⟨vn, vh, vl⟩ := v
    obtain ⟨n, h, l⟩ := x
    obtain ⟨m, g, k⟩ := y
    unfold wv at *
    dsimp only at *
    replace cc := Lib.hid cc
    replace cn := Lib.hid cn
    replace ca := Lib.hid ca
    go_enter Tryd.func24, Tryd.ntmps24
    go_wp2_with fail
    refine (cc.out _).mono ?_
    rintro e w1 ⟨rfl, hb1⟩
    obtain ⟨gx, gy, gz, hb⟩ := three_new (x := ⟨n, h, l⟩) (y := ⟨m, g, k⟩) (z := ⟨false, 0, 0⟩) hb1
    have hs := hb.size
    clear hb1
    obtain ⟨x0, x1, x2⟩ := gx.all
    obtain ⟨y0, y1, y2⟩ := gy.all
    dsimp only at x0 x1 x2 y0 y1 y2
    replace gx := Lib.hid gx
    replace gy := Lib.hid gy
    replace gz := Lib.hid gz
    replace hb := Lib.hid hb
    go_wp2_with fail
    go_region_held3 (fun w1 => w1.cell? ⟨w.heap.size, 0, none⟩ = some (.bool n) ∧ w1.cell? ⟨w.heap.size, 1, none⟩ = some (.int .u64 h) ∧ w1.cell? ⟨w.heap.size, 2, none⟩ = some (.int .u64 l) ∧
        w1.cell? ⟨w.heap.size + 1, 0, none⟩ = some (.bool m) ∧ w1.cell? ⟨w.heap.size + 1, 1, none⟩ = some (.int .u64 g) ∧ w1.cell? ⟨w.heap.size + 1, 2, none⟩ = some (.int .u64 k)) (go_keep)
      (first
        | (go_at_call 29
           refine (cn.out _).mono ?_
           rintro e w2 ⟨rfl, hb2⟩
           have gx2 := Lib.hid (gx.out.drew.below hb2)
           have gy2 := Lib.hid (gy.out.drew.below hb2)
           have gz2 := Lib.hid (gz.out.drew.below hb2)
           replace hb2 := Lib.hid ((below_drewed hb.out).trans (hb2.mono hs))
           obtain ⟨x0, x1, x2⟩ := gx2.out.all
           obtain ⟨y0, y1, y2⟩ := gy2.out.all
           dsimp only at x0 x1 x2 y0 y1 y2)
        | (go_at_call 10
           have hs2 := hb2.out.size
           refine (ca.out _).mono ?_
           rintro e w3 ⟨rfl, hb3⟩
           have gx3 := gx2.out.below hb3
           have gy3 := gy2.out.below hb3
           have gz3 := gz2.out.below hb3
           replace hb3 := hb2.out.trans (hb3.mono hs2)
           have hs3 := hb3.size
           obtain ⟨x0, x1, x2⟩ := gx3.all
           obtain ⟨y0, y1, y2⟩ := gy3.all
           obtain ⟨z0, z1, z2⟩ := gz3.all
           have zf := gz3.f
           obtain ⟨p0, p1, p2⟩ := (gx3.set3_other (c := w.heap.size + 2) (v0 := .bool rn) (v1 := .int .u64 rh) (v2 := .int .u64 rl) (by omega)).all
           obtain ⟨q0, q1, q2⟩ := (gy3.set3_other (c := w.heap.size + 2) (v0 := .bool rn) (v1 := .int .u64 rh) (v2 := .int .u64 rl) (by omega)).all
           obtain ⟨r0, r1, r2, hfin⟩ := last_set (w := w) (B := w.heap.size) gz3 ⟨rn, rh, rl⟩ hb3 (by omega)
           dsimp only at x0 x1 x2 y0 y1 y2 r0 r1 r2 hfin p0 p1 p2 q0 q1 q2
           replace hfin := Lib.hid hfin
           clear gx3 gy3 gz3 hb3))
    go_wp2_with fail
    (try simp only [Exit.inBlock, Exit.then])
    refine bodyPost_ret (by simp [results, Tryd.results24, go_sem, r0, r1, r2]; try rfl) rfl ?_
    exact ⟨rfl, hfin.out⟩
  · rw [if_neg hb] at cc ⊢
    clear hb
    replace cc := Lib.hid cc
    obtain ⟨n, h, l⟩ := x
    obtain ⟨m, g, k⟩ := y
    unfold wv zero at *
    dsimp only at *
    go_enter Tryd.func24, Tryd.ntmps24
    go_wp2_with fail
    refine (cc.out _).mono ?_
    rintro e w1 ⟨rfl, hb1⟩
    obtain ⟨gx, gy, gz, hb⟩ := three_new (x := ⟨n, h, l⟩) (y := ⟨m, g, k⟩) (z := ⟨false, 0, 0⟩) hb1
    have hs := hb.size
    obtain ⟨z0, z1, z2⟩ := gz.all
    have zf := gz.f
    obtain ⟨r0, r1, r2, hfin⟩ := last_set (w := w) (B := w.heap.size) gz ⟨false, 0, 0⟩ hb (by omega)
    dsimp only at r0 r1 r2 hfin
    replace hfin := Lib.hid hfin
    clear gx gy gz hb1 hb
    go_wp2_with fail
    (try simp only [Exit.inBlock, Exit.then])
    refine bodyPost_ret (by simp [results, Tryd.results24, go_sem, r0, r1, r2]; try rfl) rfl ?_
    exact ⟨rfl, hfin.out⟩

set_option maxHeartbeats 1000000 in
theorem mul64_nat (x y : Nat) (hx : x < 18446744073709551616) (hy : y < 18446744073709551616) (w : World) :
    Calls Tryd.prog 35 #[.int .u64 x, .int .u64 y] w fun e w' => e = .returned (.tuple #[.int .u64 ((x * y / 18446744073709551616 : Nat) : Int), .int .u64 ((x * y % 18446744073709551616 : Nat) : Int)]) ∧ w = w' := by
  obtain ⟨bd, bt, bw, hhi⟩ := Lib.mul64_hi x y hx hy
  have ba := Lib.half_mul_le (a := x / 4294967296) (b := y / 4294967296) (by omega) (by omega)
  have bb := Lib.half_mul_le (a := x / 4294967296) (b := y % 4294967296) (by omega) (by omega)
  have bc := Lib.half_mul_le (a := x % 4294967296) (b := y / 4294967296) (by omega) (by omega)
  have ba' : x / 4294967296 * (y / 4294967296) < 18446744073709551616 := by omega
  have bb' : x / 4294967296 * (y % 4294967296) < 18446744073709551616 := by omega
  have bc' : x % 4294967296 * (y / 4294967296) < 18446744073709551616 := by omega
  have bh1 : x / 4294967296 * (y / 4294967296) + (x / 4294967296 * (y % 4294967296) + x % 4294967296 * (y % 4294967296) / 4294967296) / 4294967296 < 18446744073709551616 := by omega
  have bh : x / 4294967296 * (y / 4294967296) + (x / 4294967296 * (y % 4294967296) + x % 4294967296 * (y % 4294967296) / 4294967296) / 4294967296 + ((x / 4294967296 * (y % 4294967296) + x % 4294967296 * (y % 4294967296) / 4294967296) % 4294967296 + x % 4294967296 * (y / 4294967296)) / 4294967296 < 18446744073709551616 := by omega
  go_enter Tryd.func35, Tryd.ntmps35
  go_wp2
  simp only [Mul64.maskN x hx, Mul64.maskN y hy, Mul64.divN, Mul64.mulN, Mul64.addN, Mul64.wrapN _ bd, Mul64.wrapN _ bb', Mul64.wrapN _ bt, Mul64.maskN _ bt, Mul64.wrapN _ bc', Mul64.wrapN _ bw, Mul64.wrapN _ ba', Mul64.wrapN _ bh1, Mul64.wrapN _ bh, Mul64.wrapM (x * y)]
  rw [hhi]
  go_ret2
  exact ⟨rfl, rfl⟩

theorem mul64_c (x y : Int) (x0 : 0 ≤ x) (x1 : x ≤ 18446744073709551615) (y0 : 0 ≤ y) (y1 : y ≤ 18446744073709551615) (w : World) :
    Calls Tryd.prog 35 #[.int .u64 x, .int .u64 y] w fun e w' => e = .returned (.tuple #[.int .u64 (x * y / 18446744073709551616), .int .u64 (x * y % 18446744073709551616)]) ∧ w = w' := by
  obtain ⟨X, rfl⟩ := Int.eq_ofNat_of_zero_le x0
  obtain ⟨Y, rfl⟩ := Int.eq_ofNat_of_zero_le y0
  have h := mul64_nat X Y (by omega) (by omega) w
  have e : ((X * Y : Nat) : Int) = (X : Int) * Y := Int.natCast_mul X Y
  rw [Int.natCast_ediv, Int.natCast_emod, e] at h
  exact h
end Go.Proofs.YtbfigpollacngaaDoor
