/- the walks over package wide, seventh part: the division -/
import Derived.Test.YtbfigpollacngaaDoorWvW6
import Derived.Test.YtbfigpollacngaaDoorWvD
import Derived.Deep.Cut
namespace Go.Proofs.YtbfigpollacngaaDoor
open Go.RowKit
open Rf
open Wide
attribute [local go_sem ↓] Go.wp_at_zero Go.wp_at_succ

theorem four_new (w : World) (x y z u : WI) : IsN ((((w.alloc (oN x)).alloc (oN y)).alloc (oN z)).alloc (oN u)) w.heap.size x ∧ IsN ((((w.alloc (oN x)).alloc (oN y)).alloc (oN z)).alloc (oN u)) (w.heap.size + 1) y ∧
    IsN ((((w.alloc (oN x)).alloc (oN y)).alloc (oN z)).alloc (oN u)) (w.heap.size + 2) z ∧ IsN ((((w.alloc (oN x)).alloc (oN y)).alloc (oN z)).alloc (oN u)) (w.heap.size + 3) u ∧ Below w.heap.size w ((((w.alloc (oN x)).alloc (oN y)).alloc (oN z)).alloc (oN u)) := by
  obtain ⟨h1, h2, h3, hb⟩ := three_new (w := w) (x := x) (y := y) (z := z) (Below.refl _ _)
  refine ⟨h1.alloc _, h2.alloc _, h3.alloc _, ?_, hb.alloc (by rw [size_alloc, size_alloc, size_alloc]; omega) _⟩
  have := IsN.new (((w.alloc (oN x)).alloc (oN y)).alloc (oN z)) u
  rwa [size_alloc, size_alloc, size_alloc] at this
theorem six_new (w : World) (x y z u v r : WI) : IsN ((((((w.alloc (oN x)).alloc (oN y)).alloc (oN z)).alloc (oN u)).alloc (oN v)).alloc (oN r)) w.heap.size x ∧ IsN ((((((w.alloc (oN x)).alloc (oN y)).alloc (oN z)).alloc (oN u)).alloc (oN v)).alloc (oN r)) (w.heap.size + 1) y ∧
    IsN ((((((w.alloc (oN x)).alloc (oN y)).alloc (oN z)).alloc (oN u)).alloc (oN v)).alloc (oN r)) (w.heap.size + 2) z ∧ IsN ((((((w.alloc (oN x)).alloc (oN y)).alloc (oN z)).alloc (oN u)).alloc (oN v)).alloc (oN r)) (w.heap.size + 3) u ∧
    IsN ((((((w.alloc (oN x)).alloc (oN y)).alloc (oN z)).alloc (oN u)).alloc (oN v)).alloc (oN r)) (w.heap.size + 4) v ∧ IsN ((((((w.alloc (oN x)).alloc (oN y)).alloc (oN z)).alloc (oN u)).alloc (oN v)).alloc (oN r)) (w.heap.size + 5) r ∧
    Below w.heap.size w ((((((w.alloc (oN x)).alloc (oN y)).alloc (oN z)).alloc (oN u)).alloc (oN v)).alloc (oN r)) := by
  obtain ⟨h1, h2, h3, h4, hb⟩ := four_new w x y z u
  have e : ((((w.alloc (oN x)).alloc (oN y)).alloc (oN z)).alloc (oN u)).heap.size = w.heap.size + 4 := by rw [size_alloc, size_alloc, size_alloc, size_alloc]
  refine ⟨(h1.alloc _).alloc _, (h2.alloc _).alloc _, (h3.alloc _).alloc _, (h4.alloc _).alloc _, ?_, ?_, (hb.alloc (by rw [e]; omega) _).alloc (by rw [size_alloc, e]; omega) _⟩
  · have := (IsN.new ((((w.alloc (oN x)).alloc (oN y)).alloc (oN z)).alloc (oN u)) v).alloc (oN r)
    rwa [e] at this
  · have := IsN.new (((((w.alloc (oN x)).alloc (oN y)).alloc (oN z)).alloc (oN u)).alloc (oN v)) r
    rwa [size_alloc, e] at this

theorem or_add (a b : Nat) (hb : b < 2) : (2 * a) ||| b = 2 * a + b := by
  have h := Nat.shiftLeft_add_eq_or_of_lt (b := b) (i := 1) (by simpa using hb) a
  rw [Nat.shiftLeft_eq, Nat.pow_one, Nat.mul_comm] at h
  exact h.symm
theorem or_two (r b : Nat) (hr : r < 170141183460469231731687303715884105728) (hb : b < 2) :
    bits .or .u64 (((r / 18446744073709551616 : Nat) : Int) * 2) (((r % 18446744073709551616 : Nat) : Int) / 9223372036854775808) = (((2 * r + b) / 18446744073709551616 : Nat) : Int) := by
  have e1 : ((r / 18446744073709551616 : Nat) : Int) * 2 = ((2 * (r / 18446744073709551616) : Nat) : Int) := by omega
  have e2 : ((r % 18446744073709551616 : Nat) : Int) / 9223372036854775808 = ((r % 18446744073709551616 / 9223372036854775808 : Nat) : Int) := by omega
  rw [e1, e2, u64_or_nat _ _ (by omega) (by omega), or_add _ _ (by omega)]
  omega
theorem two_low (r : Nat) : IntKind.u64.wrap (((r % 18446744073709551616 : Nat) : Int) * 2) = ((2 * (r % 9223372036854775808) : Nat) : Int) := by
  simp only [IntKind.wrap, IntKind.bits, IntKind.signed]
  simp
  omega
theorem two_low' (r : Nat) : IntKind.u64.wrap (((r % 18446744073709551616 : Nat) : Int) * 2) = ((2 * r % 18446744073709551616 : Nat) : Int) := by
  rw [two_low]; omega
theorem or_low (r b : Nat) (hb : b < 2) :
    bits .or .u64 (IntKind.u64.wrap (((r % 18446744073709551616 : Nat) : Int) * 2)) (b : Int) = (((2 * r + b) % 18446744073709551616 : Nat) : Int) := by
  rw [two_low, u64_or_nat _ _ (by omega) (by omega), or_add _ _ hb]
  omega
theorem or_one (q : Nat) : bits .or .u64 ((2 * q % 18446744073709551616 : Nat) : Int) 1 = (((2 * q + 1) % 18446744073709551616 : Nat) : Int) := by
  have e : 2 * q % 18446744073709551616 = 2 * (q % 9223372036854775808) := by omega
  rw [e, show (1 : Int) = ((1 : Nat) : Int) from rfl, u64_or_nat _ _ (by omega) (by omega), or_add _ _ (by omega)]
  omega
theorem and_bit (u j : Nat) (hu : u < 18446744073709551616) : bits .and .u64 ((u : Int) / 2 ^ j) 1 = ((u / 2 ^ j % 2 : Nat) : Int) := by
  have e : (u : Int) / 2 ^ j = ((u / 2 ^ j : Nat) : Int) := by rw [Int.natCast_ediv, Int.natCast_pow]; rfl
  rw [e, show (1 : Int) = ((1 : Nat) : Int) from rfl, u64_and_nat _ _ (Nat.lt_of_le_of_lt (Nat.div_le_self _ _) hu) (by decide), Nat.and_one_is_mod]
theorem IsN.set12 {w : World} {b : Nat} {x : WI} (hx : IsN w b x) (h l : Int) : IsN ((w.setCell ⟨b, 1, none⟩ (.int .u64 h)).setCell ⟨b, 2, none⟩ (.int .u64 l)) b ⟨x.n, h, l⟩ :=
  block_set (block_set hx)
theorem IsN.set2 {w : World} {b : Nat} {x : WI} (hx : IsN w b x) (l : Int) : IsN (w.setCell ⟨b, 2, none⟩ (.int .u64 l)) b ⟨x.n, x.h, l⟩ :=
  block_set hx
theorem below_set2 {B b : Nat} {w w1 : World} (h : Below B w w1) (hb : B ≤ b) (v1 v2 : Value) : Below B w ((w1.setCell ⟨b, 1, none⟩ v1).setCell ⟨b, 2, none⟩ v2) :=
  Below.setCell (Below.setCell h hb v1) hb v2
theorem IsN.set12_other {w : World} {b c : Nat} {v1 v2 : Value} {x : WI} (h : IsN w b x) (hne : b ≠ c) : IsN ((w.setCell ⟨c, 1, none⟩ v1).setCell ⟨c, 2, none⟩ v2) b x := (h.set_other hne).set_other hne

set_option maxRecDepth 10000 in
set_option maxHeartbeats 8000000 in
theorem divide_c (n m : Bool) (s t : Nat) (hs : s < 170141183460469231731687303715884105728) (ht0 : 0 < t) (ht : t < 170141183460469231731687303715884105728) (w : World) :
    Calls Tryd.prog 43 #[wv ⟨n, (nw s).h, (nw s).l⟩, wv ⟨m, (nw t).h, (nw t).l⟩] w fun e w' => e = .returned (.tuple #[wv (nw (s / t)), wv (nw (s % t))]) ∧ Below w.heap.size w w' := by
  have start : nw (s / 2 ^ 128 / t) = zero ∧ nw (s / 2 ^ 128 % t) = zero := by
    have e : s / 2 ^ 128 = 0 := Nat.div_eq_of_lt (by omega)
    rw [e, Nat.zero_div, Nat.zero_mod]
    exact ⟨nw_zero, nw_zero⟩
  have start := Lib.hid start
  obtain ⟨sh, hsh⟩ : ∃ sh, (nw s).h = sh := ⟨_, rfl⟩
  obtain ⟨sl, hsl⟩ : ∃ sl, (nw s).l = sl := ⟨_, rfl⟩
  obtain ⟨th, hth⟩ : ∃ th, (nw t).h = th := ⟨_, rfl⟩
  obtain ⟨tl, htl⟩ : ∃ tl, (nw t).l = tl := ⟨_, rfl⟩
  rw [hsh, hsl, hth, htl]
  have hs' := Lib.hid hs
  have ht' := Lib.hid ht
  have ht0' := Lib.hid ht0
  clear hs ht ht0
  replace hsh := Lib.hid hsh
  replace hsl := Lib.hid hsl
  replace hth := Lib.hid hth
  replace htl := Lib.hid htl
  unfold wv
  dsimp only
  go_enter Tryd.func43, Tryd.ntmps43
  go_wp2_with fail
  go_loopw [8] (fun i wr => ∃ K : Nat, K ≤ 128 ∧ i = .int .i64 ((K : Int) - 1) ∧ IsN wr w.heap.size ⟨n, sh, sl⟩ ∧ IsN wr (w.heap.size + 1) ⟨m, th, tl⟩ ∧ IsN wr (w.heap.size + 2) zero ∧ IsN wr (w.heap.size + 3) zero ∧
      IsN wr (w.heap.size + 4) (nw (s / 2 ^ K / t)) ∧ IsN wr (w.heap.size + 5) (nw (s / 2 ^ K % t)) ∧ Below w.heap.size w wr) (fun i _ => (intOf i + 1).toNat)
  case atStart =>
    obtain ⟨h1, h2, h3, h4, h5, h6, hb⟩ := six_new w ⟨n, sh, sl⟩ ⟨m, th, tl⟩ zero zero zero zero
    exact ⟨128, Nat.le_refl _, rfl, h1, h2, h3, h4, by rw [start.out.1]; exact h5, by rw [start.out.2]; exact h6, hb⟩
  case round =>
    obtain ⟨K, hK, rfl, gx, gy, gz, gu, gq, gr, hb⟩ := hrel
    have hsz := hb.size
    replace gx := Lib.hid gx
    replace gy := Lib.hid gy
    replace gz := Lib.hid gz
    replace gu := Lib.hid gu
    replace hb := Lib.hid hb
    cases K with
    | zero =>
      rw [Nat.pow_zero, Nat.div_one] at gq gr
      clear start hK
      obtain ⟨x0, x1, x2⟩ := gq.all
      obtain ⟨y0, y1, y2⟩ := gr.all
      obtain ⟨z0, z1, z2⟩ := gz.out.all
      obtain ⟨u0, u1, u2⟩ := gu.out.all
      have zf := gz.out.f
      have uf := gu.out.f
      obtain ⟨q, hqe⟩ : ∃ q, nw (s / t) = q := ⟨_, rfl⟩
      obtain ⟨r, hre⟩ : ∃ r, nw (s % t) = r := ⟨_, rfl⟩
      rw [hqe] at x0 x1 x2
      rw [hre] at y0 y1 y2
      obtain ⟨qn, qh, ql⟩ := q
      obtain ⟨rn, rh, rl⟩ := r
      dsimp only at x0 x1 x2 y0 y1 y2 ⊢
      replace hqe := Lib.hid hqe
      replace hre := Lib.hid hre
      have fz := ((gz.out.set qn qh ql).set3_other (c := w.heap.size + 3) (v0 := .bool rn) (v1 := .int .u64 rh) (v2 := .int .u64 rl) (by omega)).drew
      have fu := ((gu.out.set3_other (c := w.heap.size + 2) (v0 := .bool qn) (v1 := .int .u64 qh) (v2 := .int .u64 ql) (by omega)).set rn rh rl).drew
      have hfin := Lib.hid (below_drewed (below_set3 (below_set3 hb.out (b := w.heap.size + 2) (by omega) (.bool qn) (.int .u64 qh) (.int .u64 ql)) (b := w.heap.size + 3) (by omega) (.bool rn) (.int .u64 rh) (.int .u64 rl)))
      obtain ⟨s0, s1, s2⟩ := fz.all
      obtain ⟨t0, t1, t2⟩ := fu.all
      dsimp only at s0 s1 s2 t0 t1 t2
      replace fz := Lib.hid fz
      replace fu := Lib.hid fu
      clear gx gy gz gu gq gr hb
      go_wp2_with fail
      go_region
      go_wp2_with fail
      (try simp only [Exit.inBlock, Exit.then])
      refine bodyPost_ret (by simp [results, Tryd.results43, go_sem, s0, s1, s2, t0, t1, t2]; try rfl) rfl ?_
      exact ⟨by rw [hqe.out, hre.out], hfin.out⟩
    | succ k =>
      have hq : s / 2 ^ (k + 1) / t < 170141183460469231731687303715884105728 := Nat.lt_of_le_of_lt (Nat.le_trans (Nat.div_le_self _ _) (Nat.div_le_self _ _)) hs'.out
      have hr : s / 2 ^ (k + 1) % t < t := Nat.mod_lt _ ht0'.out
      have hr2 := Nat.lt_trans hr ht'.out
      have key := Lib.hid (div_round s t k ht0'.out)
      have hb2 : s / 2 ^ k % 2 < 2 := Nat.mod_lt _ (by decide)
      have shN : (nw s).h = ((s / 18446744073709551616 : Nat) : Int) := rfl
      have slN : (nw s).l = ((s % 18446744073709551616 : Nat) : Int) := rfl
      rw [hsh.out] at shN
      rw [hsl.out] at slN
      have sdm : s = s / 18446744073709551616 * 18446744073709551616 + s % 18446744073709551616 := by omega
      have bh : 64 ≤ k → bits .and .u64 (sh / 2 ^ (k - 64)) 1 = ((s / 2 ^ k % 2 : Nat) : Int) := by
        intro h
        have hs2 := hs'.out
        rw [shN, and_bit _ _ (by omega), ← bit_high (s / 18446744073709551616) (s % 18446744073709551616) k h (Nat.mod_lt _ (by decide)), ← sdm]
      have bl : ¬ 64 ≤ k → bits .and .u64 (sl / 2 ^ k) 1 = ((s / 2 ^ k % 2 : Nat) : Int) := by
        intro h
        rw [slN, and_bit _ _ (Nat.mod_lt _ (by decide)), ← bit_low (s / 18446744073709551616) (s % 18446744073709551616) k (by omega), ← sdm]
      have s0 : 0 ≤ sh ∧ sh ≤ 18446744073709551615 ∧ 0 ≤ sl ∧ sl ≤ 18446744073709551615 := by have hs2 := hs'.out; omega
      clear shN slN sdm
      have ty : ((⟨m, th, tl⟩ : WI).Ok) := by have h := nw_ok (Nat.lt_trans ht'.out (by decide)); rw [← hth.out, ← htl.out]; exact h
      have tz : ((⟨m, th, tl⟩ : WI).sz) = t := by have h := nw_sz t; rw [← hth.out, ← htl.out]; exact h
      generalize s / 2 ^ (k + 1) / t = q at *
      generalize s / 2 ^ (k + 1) % t = r at *
      generalize hbv : s / 2 ^ k % 2 = b at *
      have f1 := or_two r b hr2 hb2
      have f2 := or_low r b hb2
      have f3 := or_two q 0 hq (by decide)
      have f4 := two_low' q
      have f5 := or_one q
      have rok : (nw (2 * r + b)).Ok := nw_ok (by omega)
      have rsz := nw_sz (2 * r + b)
      have cs := Lib.hid (size_c (nw (2 * r + b)) ⟨m, th, tl⟩ rok ty)
      rw [rsz, tz] at cs
      obtain ⟨x0, x1, x2⟩ := gx.out.all
      obtain ⟨q0, q1, q2⟩ := gq.all
      obtain ⟨r0, r1, r2⟩ := gr.all
      obtain ⟨y0, y1, y2⟩ := gy.out.all
      have qf := gq.f
      have rf := gr.f
      unfold nw at q0 q1 q2 r0 r1 r2 cs
      unfold wv at cs
      dsimp only at x0 x1 x2 q0 q1 q2 r0 r1 r2 y0 y1 y2 cs
      rw [Nat.add_zero] at f3
      have n1 : (0 : Int) ≤ ((r / 18446744073709551616 : Nat) : Int) ∧ ((r / 18446744073709551616 : Nat) : Int) < 9223372036854775808 ∧ (0 : Int) ≤ ((r % 18446744073709551616 : Nat) : Int) ∧ ((r % 18446744073709551616 : Nat) : Int) ≤ 18446744073709551615 := by omega
      have n2 : (0 : Int) ≤ ((q / 18446744073709551616 : Nat) : Int) ∧ ((q / 18446744073709551616 : Nat) : Int) < 9223372036854775808 ∧ (0 : Int) ≤ ((q % 18446744073709551616 : Nat) : Int) ∧ ((q % 18446744073709551616 : Nat) : Int) ≤ 18446744073709551615 := by omega
      have gq3 := Lib.hid (show nw (2 * q) = ⟨false, ((2 * q / 18446744073709551616 : Nat) : Int), ((2 * q % 18446744073709551616 : Nat) : Int)⟩ from rfl)
      have gq4 := Lib.hid (show nw (2 * q + 1) = ⟨false, ((2 * q / 18446744073709551616 : Nat) : Int), (((2 * q + 1) % 18446744073709551616 : Nat) : Int)⟩ from by unfold nw; congr 2; omega)
      have gr3 := Lib.hid (show nw (2 * r + b) = ⟨false, (((2 * r + b) / 18446744073709551616 : Nat) : Int), (((2 * r + b) % 18446744073709551616 : Nat) : Int)⟩ from rfl)
      obtain ⟨Rh, hRh⟩ : ∃ Rh, (((2 * r + b) / 18446744073709551616 : Nat) : Int) = Rh := ⟨_, rfl⟩
      obtain ⟨Rl, hRl⟩ : ∃ Rl, (((2 * r + b) % 18446744073709551616 : Nat) : Int) = Rl := ⟨_, rfl⟩
      obtain ⟨Qh, hQh⟩ : ∃ Qh, ((2 * q / 18446744073709551616 : Nat) : Int) = Qh := ⟨_, rfl⟩
      obtain ⟨Ql, hQl⟩ : ∃ Ql, ((2 * q % 18446744073709551616 : Nat) : Int) = Ql := ⟨_, rfl⟩
      obtain ⟨Qm, hQm⟩ : ∃ Qm, (((2 * q + 1) % 18446744073709551616 : Nat) : Int) = Qm := ⟨_, rfl⟩
      rw [hRh] at f1 cs gr3
      rw [hRl] at f2 cs gr3
      rw [hQh] at f3 gq3 gq4
      rw [hQl] at f4 f5 gq3
      rw [hQm] at f5 gq4
      have tth := hth.out
      have ttl := htl.out
      unfold nw at tth ttl
      dsimp only at tth ttl
      have nb : 0 ≤ Rh ∧ Rh ≤ 18446744073709551615 ∧ 0 ≤ Rl ∧ Rl ≤ 18446744073709551615 ∧ 0 ≤ Qh ∧ 0 ≤ Ql ∧ Ql ≤ 18446744073709551615 ∧ 0 ≤ Qm := by omega
      have tb : 0 ≤ th ∧ th ≤ 18446744073709551615 ∧ 0 ≤ tl ∧ tl ≤ 18446744073709551615 := by have := ht'.out; omega
      have hx4 := Lib.hid ((gx.out.set12_other (c := w.heap.size + 5) (v1 := .int .u64 Rh) (v2 := .int .u64 Rl) (by omega)).set12_other (c := w.heap.size + 4) (v1 := .int .u64 Qh) (v2 := .int .u64 Ql) (by omega))
      have hy4 := Lib.hid ((gy.out.set12_other (c := w.heap.size + 5) (v1 := .int .u64 Rh) (v2 := .int .u64 Rl) (by omega)).set12_other (c := w.heap.size + 4) (v1 := .int .u64 Qh) (v2 := .int .u64 Ql) (by omega))
      have hz4 := Lib.hid ((gz.out.set12_other (c := w.heap.size + 5) (v1 := .int .u64 Rh) (v2 := .int .u64 Rl) (by omega)).set12_other (c := w.heap.size + 4) (v1 := .int .u64 Qh) (v2 := .int .u64 Ql) (by omega))
      have hu4 := Lib.hid ((gu.out.set12_other (c := w.heap.size + 5) (v1 := .int .u64 Rh) (v2 := .int .u64 Rl) (by omega)).set12_other (c := w.heap.size + 4) (v1 := .int .u64 Qh) (v2 := .int .u64 Ql) (by omega))
      have hr4 := Lib.hid ((gr.set12 Rh Rl).set12_other (c := w.heap.size + 4) (v1 := .int .u64 Qh) (v2 := .int .u64 Ql) (by omega))
      have hq4 := Lib.hid ((gq.set12_other (c := w.heap.size + 5) (v1 := .int .u64 Rh) (v2 := .int .u64 Rl) (by omega)).set12 Qh Ql)
      have hb4 := Lib.hid (below_set2 (below_set2 hb.out (b := w.heap.size + 5) (by omega) (.int .u64 Rh) (.int .u64 Rl)) (b := w.heap.size + 4) (by omega) (.int .u64 Qh) (.int .u64 Ql))
      clear gx gy gz gu gq gr hb start hsl hsh hth htl ty tz rok rsz
      by_cases hge : t ≤ 2 * r + b
      · have hsg : 0 ≤ sgn (((2 * r + b : Nat) : Int) - (t : Int)) := by unfold sgn; rw [if_neg (by omega)]; split <;> omega
        generalize sgn (((2 * r + b : Nat) : Int) - (t : Int)) = sv at *
        replace key := Lib.hid (key.out.2 hge)
        obtain ⟨lo, hlo⟩ : ∃ lo, (Rl - tl - 0) % 18446744073709551616 = lo := ⟨_, rfl⟩
        obtain ⟨c, hc⟩ : ∃ c : Int, (if Rl < tl + 0 then 1 else 0) = c := ⟨_, rfl⟩
        have hcb : (Rl < tl ∧ c = 1) ∨ (¬ Rl < tl ∧ c = 0) := by
          by_cases hkl : Rl < tl
          · rw [if_pos (by omega)] at hc; exact .inl ⟨hkl, hc.symm⟩
          · rw [if_neg (by omega)] at hc; exact .inr ⟨hkl, hc.symm⟩
        obtain ⟨hi, hhi⟩ : ∃ hi, (Rh - th - c) % 18446744073709551616 = hi := ⟨_, rfl⟩
        obtain ⟨c2, hc2⟩ : ∃ c2 : Int, (if Rh < th + c then 1 else 0) = c2 := ⟨_, rfl⟩
        have e1 := fun w => run_sub64_here Rl tl 0 (by omega) (by omega) (by omega) (by omega) (by omega) w
        have e2 := fun w => run_sub64_here Rh th c (by omega) (by omega) (by omega) (by omega) (by omega) w
        rw [hlo, hc] at e1
        rw [hhi, hc2] at e2
        have gr5 := Lib.hid (show nw (2 * r + b - t) = ⟨false, hi, lo⟩ from by
          clear e1 e2 hc hc2
          unfold nw
          have a1 : ((((2 * r + b - t) / 18446744073709551616 : Nat)) : Int) = hi := by omega
          have a2 : ((((2 * r + b - t) % 18446744073709551616 : Nat)) : Int) = lo := by omega
          rw [a1, a2])
        clear hc hc2 hlo hhi hcb hge tth ttl hRh hRl hQh hQl hQm
        generalize ((r / 18446744073709551616 : Nat) : Int) = rh at *
        generalize ((r % 18446744073709551616 : Nat) : Int) = rl at *
        generalize ((q / 18446744073709551616 : Nat) : Int) = qh at *
        generalize ((q % 18446744073709551616 : Nat) : Int) = ql at *
        by_cases hk : 64 ≤ k
        all_goals
          first | (have bb := bh hk) | (have bb := bl hk)
          clear bh bl
          go_wp2_with fail
          refine (cs.out _).mono ?_
          rintro e w5 ⟨rfl, hb5⟩
          have gx5 := hx4.out.below hb5
          have gy5 := hy4.out.below hb5
          have gz5 := hz4.out.below hb5
          have gu5 := hu4.out.below hb5
          have gr6 := hr4.out.below hb5
          have gq5 := hq4.out.below hb5
          have hb6 := hb4.out.trans (hb5.mono hb4.out.size)
          have hsz6 := hb6.size
          replace gr6 : IsN w5 (w.heap.size + 5) ⟨false, Rh, Rl⟩ := gr6
          replace gq5 : IsN w5 (w.heap.size + 4) ⟨false, Qh, Ql⟩ := gq5
          clear hx4 hy4 hz4 hu4 hr4 hq4 hb4 hb5 x0 x1 x2 y0 y1 y2 q0 q1 q2 r0 r1 r2 f1 f2 f3 f4 cs qf rf
          obtain ⟨y0, y1, y2⟩ := gy5.all
          obtain ⟨q0, q1, q2⟩ := gq5.all
          obtain ⟨r0, r1, r2⟩ := gr6.all
          have qf := gq5.f
          have rf := gr6.f
          dsimp only at y0 y1 y2 q0 q1 q2 r0 r1 r2
          have gx7 := Lib.hid ((gx5.set12_other (c := w.heap.size + 5) (v1 := .int .u64 hi) (v2 := .int .u64 lo) (by omega)).set_other (c := w.heap.size + 4) (i := 2) (v := .int .u64 Qm) (by omega))
          have gy7 := Lib.hid ((gy5.set12_other (c := w.heap.size + 5) (v1 := .int .u64 hi) (v2 := .int .u64 lo) (by omega)).set_other (c := w.heap.size + 4) (i := 2) (v := .int .u64 Qm) (by omega))
          have gz7 := Lib.hid ((gz5.set12_other (c := w.heap.size + 5) (v1 := .int .u64 hi) (v2 := .int .u64 lo) (by omega)).set_other (c := w.heap.size + 4) (i := 2) (v := .int .u64 Qm) (by omega))
          have gu7 := Lib.hid ((gu5.set12_other (c := w.heap.size + 5) (v1 := .int .u64 hi) (v2 := .int .u64 lo) (by omega)).set_other (c := w.heap.size + 4) (i := 2) (v := .int .u64 Qm) (by omega))
          have gr7 := Lib.hid ((gr6.set12 hi lo).set_other (c := w.heap.size + 4) (i := 2) (v := .int .u64 Qm) (by omega))
          have gq7 := Lib.hid ((gq5.set12_other (c := w.heap.size + 5) (v1 := .int .u64 hi) (v2 := .int .u64 lo) (by omega)).set2 Qm)
          have hb7 := Lib.hid (Below.setCell (below_set2 hb6 (b := w.heap.size + 5) (by omega) (.int .u64 hi) (.int .u64 lo)) (p := ⟨w.heap.size + 4, 2, none⟩) (by show w.heap.size ≤ w.heap.size + 4; omega) (.int .u64 Qm))
          clear gx5 gy5 gz5 gu5 gr6 gq5 hb6
          go_wp2_with fail
          go_roundw
          case rel => exact ⟨k, by omega, by go_num, gx7.out, gy7.out, gz7.out, gu7.out, by rw [key.out.1, gq4.out]; exact gq7.out, by rw [key.out.2, gr5.out]; exact gr7.out, hb7.out⟩
          case measure => simp [intOf]
      · have hsg : sgn (((2 * r + b : Nat) : Int) - (t : Int)) = -1 := sgn_neg (by omega)
        rw [hsg] at cs
        replace key := Lib.hid (key.out.1 (by omega))
        clear hsg hge tth ttl hRh hRl hQh hQl hQm
        generalize ((r / 18446744073709551616 : Nat) : Int) = rh at *
        generalize ((r % 18446744073709551616 : Nat) : Int) = rl at *
        generalize ((q / 18446744073709551616 : Nat) : Int) = qh at *
        generalize ((q % 18446744073709551616 : Nat) : Int) = ql at *
        by_cases hk : 64 ≤ k
        all_goals
          first | (have bb := bh hk) | (have bb := bl hk)
          clear bh bl
          go_wp2_with fail
          refine (cs.out _).mono ?_
          rintro e w5 ⟨rfl, hb5⟩
          have gx5 := hx4.out.below hb5
          have gy5 := hy4.out.below hb5
          have gz5 := hz4.out.below hb5
          have gu5 := hu4.out.below hb5
          have gr5 := hr4.out.below hb5
          have gq5 := hq4.out.below hb5
          have hb6 := hb4.out.trans (hb5.mono hb4.out.size)
          replace gr5 : IsN w5 (w.heap.size + 5) ⟨false, Rh, Rl⟩ := gr5
          replace gq5 : IsN w5 (w.heap.size + 4) ⟨false, Qh, Ql⟩ := gq5
          clear hx4 hy4 hz4 hu4 hr4 hq4 hb4 hb5 x0 x1 x2 y0 y1 y2 q0 q1 q2 r0 r1 r2 f1 f2 f3 f4 f5 cs
          replace gx5 := Lib.hid gx5
          replace gy5 := Lib.hid gy5
          replace gz5 := Lib.hid gz5
          replace gu5 := Lib.hid gu5
          replace gr5 := Lib.hid gr5
          replace gq5 := Lib.hid gq5
          replace hb6 := Lib.hid hb6
          go_wp2_with fail
          go_roundw
          case rel => exact ⟨k, by omega, by go_num, gx5.out, gy5.out, gz5.out, gu5.out, by rw [key.out.1, gq3.out]; exact gq5.out, by rw [key.out.2, gr3.out]; exact gr5.out, hb6.out⟩
          case measure => simp [intOf]
end Go.Proofs.YtbfigpollacngaaDoor
