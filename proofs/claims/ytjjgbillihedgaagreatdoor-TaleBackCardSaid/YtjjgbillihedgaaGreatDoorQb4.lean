/- parts of the proof, merged: WvW4 -/
import Derived.Test.YtjjgbillihedgaaGreatDoorQb3
set_option maxHeartbeats 8000000
set_option maxRecDepth 10000
namespace Go.Proofs.YtjjgbillihedgaaGreatDoor
open Go.RowKit
open Rf
open Wide
theorem IsN.set_other {w : World} {b c i : Nat} {v : Value} {x : WI} (h : IsN w b x) (hne : b ≠ c) : IsN (w.setCell ⟨c, i, none⟩ v) b x := by
 unfold IsN at *
 show (w.heap.modify c _)[b]? = _
 rw [Array.getElem?_modify, if_neg (fun hh => hne hh.symm)]
 exact h
theorem IsN.set3_other {w : World} {b c : Nat} {v0 v1 v2 : Value} {x : WI} (h : IsN w b x) (hne : b ≠ c) : IsN (((w.setCell ⟨c, 0, none⟩ v0).setCell ⟨c, 1, none⟩ v1).setCell ⟨c, 2, none⟩ v2) b x := ((h.set_other hne).set_other hne).set_other hne
/-- a result's cell behind the last call: the three stores, and what stands there -/
theorem last_set {B b : Nat} {w w1 : World} {x : WI} (hz : IsN w1 b x) (r : WI) (h : Below B w w1) (hb : B ≤ b) :
 (((w1.setCell ⟨b, 0, none⟩ (.bool r.n)).setCell ⟨b, 1, none⟩ (.int .u64 r.h)).setCell ⟨b, 2, none⟩ (.int .u64 r.l)).cell? ⟨b, 0, none⟩ = some (.bool r.n) ∧
 (((w1.setCell ⟨b, 0, none⟩ (.bool r.n)).setCell ⟨b, 1, none⟩ (.int .u64 r.h)).setCell ⟨b, 2, none⟩ (.int .u64 r.l)).cell? ⟨b, 1, none⟩ = some (.int .u64 r.h) ∧
 (((w1.setCell ⟨b, 0, none⟩ (.bool r.n)).setCell ⟨b, 1, none⟩ (.int .u64 r.h)).setCell ⟨b, 2, none⟩ (.int .u64 r.l)).cell? ⟨b, 2, none⟩ = some (.int .u64 r.l) ∧
 Below B w (((w1.setCell ⟨b, 0, none⟩ (.bool r.n)).setCell ⟨b, 1, none⟩ (.int .u64 r.h)).setCell ⟨b, 2, none⟩ (.int .u64 r.l)) :=
 ⟨(hz.set r.n r.h r.l).c0, (hz.set r.n r.h r.l).c1, (hz.set r.n r.h r.l).c2, below_set3 h hb _ _ _⟩
theorem add_c (x y : WI) (ho : x.Ok) (hp : y.Ok) (w : World) : Calls Tryz.prog 151 #[wv x, wv y] w fun e w' => e = .returned (.tuple #[wv (addF x y).1, .int .i64 (addF x y).2]) ∧ Below w.heap.size w w' := by
 have cc := check_c x y ho hp false
 rw [Bool.false_and, Bool.not_false, Bool.and_true] at cc
 unfold addF
 by_cases hb : (x.form && y.form) = true
 ·rw [if_pos hb] at cc ⊢
  obtain ⟨hf, hg⟩ : x.form = true ∧ y.form = true := by simpa using hb
  have fx := form_lt hf
  have fy := form_lt hg
  have cs := size_c x y ho hp
  replace cc := Hd cc
  obtain ⟨n, h, l⟩ := x
  obtain ⟨m, g, k⟩ := y
  obtain ⟨o1, o2, o3, o4⟩ := ho
  obtain ⟨p1, p2, p3, p4⟩ := hp
  dsimp only at o1 o2 o3 o4 p1 p2 p3 p4 fx fy
  clear hb hf hg
  by_cases hnm : n = m
  ·subst hnm
   obtain ⟨lo, hlo⟩ : ∃ lo, (l + k + 0) % 18446744073709551616 = lo := ⟨_, rfl⟩
   obtain ⟨c, hc⟩ : ∃ c, (l + k + 0) / 18446744073709551616 = c := ⟨_, rfl⟩
   obtain ⟨hi, hhi⟩ : ∃ hi, (h + g + c) % 18446744073709551616 = hi := ⟨_, rfl⟩
   obtain ⟨c2, hc2⟩ : ∃ c2, (h + g + c) / 18446744073709551616 = c2 := ⟨_, rfl⟩
   have r1 := fun w => run_add64_here l k 0 o3 p3 (by omega) (by omega) w
   have r2 := fun w => run_add64_here h g c o1 p1 (by omega) (by omega) w
   rw [hlo, hc] at r1
   rw [hhi, hc2] at r2
   have ev : (⟨n, h, l⟩ : WI).val + (⟨n, g, k⟩ : WI).val = neg n (hi * 18446744073709551616 + lo) := by
    unfold WI.val WI.sz neg
    dsimp only
    cases n <;> simp only [if_true, if_false, Bool.false_eq_true] <;> omega
   rw [ev]
   have cf := Hd (fit_c n hi lo (by omega) (by omega) (by omega) (by omega))
   generalize R (neg n (hi * 18446744073709551616 + lo)) = r at *
   clear cs ev hlo hc hhi hc2
   unfold wv at *
   dsimp only at *
   obtain ⟨⟨rn, rh, rl⟩, rc⟩ := r
   dsimp only at *
   go_enter Tryz.func151, Tryz.ntmps151
   go_wp2_with fail
   refine (cc.out _).mono ?_
   rintro e w1 ⟨rfl, hb1⟩
   obtain ⟨gx, gy, gz, hb⟩ := three_new (x := ⟨n, h, l⟩) (y := ⟨n, g, k⟩) (z := ⟨false, 0, 0⟩) hb1
   have hs := hb.size
   obtain ⟨x0, x1, x2⟩ := gx.all
   obtain ⟨y0, y1, y2⟩ := gy.all
   dsimp only at x0 x1 x2 y0 y1 y2
   clear hb1
   replace gx := Hd gx
   replace gy := Hd gy
   replace gz := Hd gz
   replace hb := Hd hb
   go_wp2_with fail
   refine (cf.out _).mono ?_
   rintro e w9 ⟨rfl, hb9⟩
   have gz9 := gz.out.below hb9
   obtain ⟨z0, z1, z2⟩ := gz9.all
   have zf := gz9.f
   obtain ⟨r0, r1, r2, hfin⟩ := last_set (w := w) (B := w.heap.size) gz9 ⟨rn, rh, rl⟩ (hb.out.trans (hb9.mono hs)) (by omega)
   dsimp only at r0 r1 r2 hfin
   replace hfin := Hd hfin
   clear x0 x1 x2 y0 y1 y2 gx gy gz gz9 hb9 hb
   go_wp2_with fail
   (try simp only [Exit.inBlock, Exit.then])
   refine bodyPost_ret (by simp [results, Tryz.results151, go_sem, r0, r1, r2]; try rfl) rfl ?_
   exact ⟨rfl, hfin.out⟩
  ·have hm : m = !n := by cases n <;> cases m <;> simp_all
   subst hm
   clear hnm
   by_cases hs : (⟨n, h, l⟩ : WI).sz - (⟨!n, g, k⟩ : WI).sz < 0
   ·rw [sgn_neg hs] at cs
    unfold WI.sz at hs
    dsimp only at hs
    obtain ⟨lo, hlo⟩ : ∃ lo, (k - l - 0) % 18446744073709551616 = lo := ⟨_, rfl⟩
    obtain ⟨c, hc⟩ : ∃ c : Int, (if k < l + 0 then 1 else 0) = c := ⟨_, rfl⟩
    have hcb : (k < l ∧ c = 1) ∨ (¬ k < l ∧ c = 0) := by
     by_cases hkl : k < l
     ·rw [if_pos (by omega)] at hc; exact .inl ⟨hkl, hc.symm⟩
     ·rw [if_neg (by omega)] at hc; exact .inr ⟨hkl, hc.symm⟩
    obtain ⟨hi, hhi⟩ : ∃ hi, (g - h - c) % 18446744073709551616 = hi := ⟨_, rfl⟩
    obtain ⟨c2, hc2⟩ : ∃ c2 : Int, (if g < h + c then 1 else 0) = c2 := ⟨_, rfl⟩
    have r1 := fun w => run_sub64_here k l 0 p3 o3 o4 (by omega) (by omega) w
    have r2 := fun w => run_sub64_here g h c p1 o1 o2 (by omega) (by omega) w
    rw [hlo, hc] at r1
    rw [hhi, hc2] at r2
    have ev : (⟨n, h, l⟩ : WI).val + (⟨!n, g, k⟩ : WI).val = neg (!n) (hi * 18446744073709551616 + lo) := by
     unfold WI.val WI.sz neg
     dsimp only
     clear r1 r2 hc hc2 cs cc
     cases n <;> simp only [Bool.not_true, Bool.not_false, if_true, if_false, Bool.false_eq_true] <;> omega
    rw [ev]
    have hb : 0 ≤ hi ∧ hi ≤ 18446744073709551615 ∧ 0 ≤ lo ∧ lo ≤ 18446744073709551615 := by clear r1 r2 hc hc2 cs cc; omega
    have cf := Hd (fit_c (!n) hi lo hb.1 hb.2.1 hb.2.2.1 hb.2.2.2)
    generalize R (neg (!n) (hi * 18446744073709551616 + lo)) = r at *
    clear ev hlo hc hhi hc2 hcb hb hs
    replace cs := Hd cs
    unfold wv at *
    dsimp only at *
    obtain ⟨⟨rn, rh, rl⟩, rc⟩ := r
    dsimp only at *
    cases n with
    | false =>
      go_enter Tryz.func151, Tryz.ntmps151
      go_wp2_with fail
      refine (cc.out _).mono ?_
      rintro e w1 ⟨rfl, hb1⟩
      obtain ⟨gx, gy, gz, hb⟩ := three_new (x := ⟨false, h, l⟩) (y := ⟨true, g, k⟩) (z := ⟨false, 0, 0⟩) hb1
      have hs := hb.size
      obtain ⟨x0, x1, x2⟩ := gx.all
      obtain ⟨y0, y1, y2⟩ := gy.all
      dsimp only at x0 x1 x2 y0 y1 y2
      clear hb1
      replace gx := Hd gx
      replace gy := Hd gy
      replace gz := Hd gz
      replace hb := Hd hb
      go_wp2_with fail
      refine (cs.out _).mono ?_
      rintro e w2 ⟨rfl, hb2⟩
      clear x0 x1 x2 y0 y1 y2
      have gx2 := gx.out.below hb2
      have gy2 := gy.out.below hb2
      have gz2 := gz.out.below hb2
      obtain ⟨x0, x1, x2⟩ := gx2.all
      obtain ⟨y0, y1, y2⟩ := gy2.all
      have xf := gx2.f
      have yf := gy2.f
      dsimp only at x0 x1 x2 y0 y1 y2
      have vx := (gx2.set true g k).set3_other (c := w.heap.size + 1) (v0 := .bool false) (v1 := .int .u64 h) (v2 := .int .u64 l) (by omega)
      have vy := (gy2.set3_other (c := w.heap.size) (v0 := .bool true) (v1 := .int .u64 g) (v2 := .int .u64 k) (by omega)).set false h l
      have vz := (gz2.set3_other (c := w.heap.size) (v0 := .bool true) (v1 := .int .u64 g) (v2 := .int .u64 k) (by omega)).set3_other (c := w.heap.size + 1) (v0 := .bool false) (v1 := .int .u64 h) (v2 := .int .u64 l) (by omega)
      obtain ⟨s0, s1, s2⟩ := (gx2.set true g k).all
      obtain ⟨u0, u1, u2⟩ := (gy2.set3_other (c := w.heap.size) (v0 := .bool true) (v1 := .int .u64 g) (v2 := .int .u64 k) (by omega)).all
      have uf := (gy2.set3_other (c := w.heap.size) (v0 := .bool true) (v1 := .int .u64 g) (v2 := .int .u64 k) (by omega)).f
      have hb3 := below_set3 (below_set3 (hb.out.trans (hb2.mono hs)) (b := w.heap.size) (by omega) (.bool true) (.int .u64 g) (.int .u64 k)) (b := w.heap.size + 1) (by omega) (.bool false) (.int .u64 h) (.int .u64 l)
      obtain ⟨t0, t1, t2⟩ := vx.all
      obtain ⟨q0, q1, q2⟩ := vy.all
      dsimp only at s0 s1 s2 u0 u1 u2 t0 t1 t2 q0 q1 q2
      replace vz := Hd vz
      replace hb3 := Hd hb3
      have hs3 := hb3.out.size
      clear gx gy gx2 gy2 gz gz2 vx vy hb hb2 hs
      have hs := hs3
      have hb := hb3
      have gz := vz
      clear hs3 hb3 vz
      go_wp2_with fail
      refine (cf.out _).mono ?_
      rintro e w9 ⟨rfl, hb9⟩
      have gz9 := gz.out.below hb9
      obtain ⟨z0, z1, z2⟩ := gz9.all
      have zf := gz9.f
      obtain ⟨r0, r1, r2, hfin⟩ := last_set (w := w) (B := w.heap.size) gz9 ⟨rn, rh, rl⟩ (hb.out.trans (hb9.mono hs)) (by omega)
      dsimp only at r0 r1 r2 hfin
      replace hfin := Hd hfin
      clear x0 x1 x2 y0 y1 y2 s0 s1 s2 u0 u1 u2 uf xf yf t0 t1 t2 q0 q1 q2 gz gz9 hb9 hb
      go_wp2_with fail
      (try simp only [Exit.inBlock, Exit.then])
      refine bodyPost_ret (by simp [results, Tryz.results151, go_sem, r0, r1, r2]; try rfl) rfl ?_
      exact ⟨rfl, hfin.out⟩
    | true =>
      go_enter Tryz.func151, Tryz.ntmps151
      go_wp2_with fail
      refine (cc.out _).mono ?_
      rintro e w1 ⟨rfl, hb1⟩
      obtain ⟨gx, gy, gz, hb⟩ := three_new (x := ⟨true, h, l⟩) (y := ⟨false, g, k⟩) (z := ⟨false, 0, 0⟩) hb1
      have hs := hb.size
      obtain ⟨x0, x1, x2⟩ := gx.all
      obtain ⟨y0, y1, y2⟩ := gy.all
      dsimp only at x0 x1 x2 y0 y1 y2
      clear hb1
      replace gx := Hd gx
      replace gy := Hd gy
      replace gz := Hd gz
      replace hb := Hd hb
      go_wp2_with fail
      refine (cs.out _).mono ?_
      rintro e w2 ⟨rfl, hb2⟩
      clear x0 x1 x2 y0 y1 y2
      have gx2 := gx.out.below hb2
      have gy2 := gy.out.below hb2
      have gz2 := gz.out.below hb2
      obtain ⟨x0, x1, x2⟩ := gx2.all
      obtain ⟨y0, y1, y2⟩ := gy2.all
      have xf := gx2.f
      have yf := gy2.f
      dsimp only at x0 x1 x2 y0 y1 y2
      have vx := (gx2.set false g k).set3_other (c := w.heap.size + 1) (v0 := .bool true) (v1 := .int .u64 h) (v2 := .int .u64 l) (by omega)
      have vy := (gy2.set3_other (c := w.heap.size) (v0 := .bool false) (v1 := .int .u64 g) (v2 := .int .u64 k) (by omega)).set true h l
      have vz := (gz2.set3_other (c := w.heap.size) (v0 := .bool false) (v1 := .int .u64 g) (v2 := .int .u64 k) (by omega)).set3_other (c := w.heap.size + 1) (v0 := .bool true) (v1 := .int .u64 h) (v2 := .int .u64 l) (by omega)
      obtain ⟨s0, s1, s2⟩ := (gx2.set false g k).all
      obtain ⟨u0, u1, u2⟩ := (gy2.set3_other (c := w.heap.size) (v0 := .bool false) (v1 := .int .u64 g) (v2 := .int .u64 k) (by omega)).all
      have uf := (gy2.set3_other (c := w.heap.size) (v0 := .bool false) (v1 := .int .u64 g) (v2 := .int .u64 k) (by omega)).f
      have hb3 := below_set3 (below_set3 (hb.out.trans (hb2.mono hs)) (b := w.heap.size) (by omega) (.bool false) (.int .u64 g) (.int .u64 k)) (b := w.heap.size + 1) (by omega) (.bool true) (.int .u64 h) (.int .u64 l)
      obtain ⟨t0, t1, t2⟩ := vx.all
      obtain ⟨q0, q1, q2⟩ := vy.all
      dsimp only at s0 s1 s2 u0 u1 u2 t0 t1 t2 q0 q1 q2
      replace vz := Hd vz
      replace hb3 := Hd hb3
      have hs3 := hb3.out.size
      clear gx gy gx2 gy2 gz gz2 vx vy hb hb2 hs
      have hs := hs3
      have hb := hb3
      have gz := vz
      clear hs3 hb3 vz
      go_wp2_with fail
      refine (cf.out _).mono ?_
      rintro e w9 ⟨rfl, hb9⟩
      have gz9 := gz.out.below hb9
      obtain ⟨z0, z1, z2⟩ := gz9.all
      have zf := gz9.f
      obtain ⟨r0, r1, r2, hfin⟩ := last_set (w := w) (B := w.heap.size) gz9 ⟨rn, rh, rl⟩ (hb.out.trans (hb9.mono hs)) (by omega)
      dsimp only at r0 r1 r2 hfin
      replace hfin := Hd hfin
      clear x0 x1 x2 y0 y1 y2 s0 s1 s2 u0 u1 u2 uf xf yf t0 t1 t2 q0 q1 q2 gz gz9 hb9 hb
      go_wp2_with fail
      (try simp only [Exit.inBlock, Exit.then])
      refine bodyPost_ret (by simp [results, Tryz.results151, go_sem, r0, r1, r2]; try rfl) rfl ?_
      exact ⟨rfl, hfin.out⟩
   ·have hsg : 0 ≤ sgn ((⟨n, h, l⟩ : WI).sz - (⟨!n, g, k⟩ : WI).sz) := by unfold sgn; rw [if_neg hs]; split <;> omega
    generalize hsv : sgn ((⟨n, h, l⟩ : WI).sz - (⟨!n, g, k⟩ : WI).sz) = sv at *
    clear hsv
    unfold WI.sz at hs
    dsimp only at hs
    obtain ⟨lo, hlo⟩ : ∃ lo, (l - k - 0) % 18446744073709551616 = lo := ⟨_, rfl⟩
    obtain ⟨c, hc⟩ : ∃ c : Int, (if l < k + 0 then 1 else 0) = c := ⟨_, rfl⟩
    have hcb : (l < k ∧ c = 1) ∨ (¬ l < k ∧ c = 0) := by
     by_cases hkl : l < k
     ·rw [if_pos (by omega)] at hc; exact .inl ⟨hkl, hc.symm⟩
     ·rw [if_neg (by omega)] at hc; exact .inr ⟨hkl, hc.symm⟩
    obtain ⟨hi, hhi⟩ : ∃ hi, (h - g - c) % 18446744073709551616 = hi := ⟨_, rfl⟩
    obtain ⟨c2, hc2⟩ : ∃ c2 : Int, (if h < g + c then 1 else 0) = c2 := ⟨_, rfl⟩
    have r1 := fun w => run_sub64_here l k 0 o3 p3 p4 (by omega) (by omega) w
    have r2 := fun w => run_sub64_here h g c o1 p1 p2 (by omega) (by omega) w
    rw [hlo, hc] at r1
    rw [hhi, hc2] at r2
    have ev : (⟨n, h, l⟩ : WI).val + (⟨!n, g, k⟩ : WI).val = neg n (hi * 18446744073709551616 + lo) := by
     unfold WI.val WI.sz neg
     dsimp only
     clear r1 r2 hc hc2 cs cc
     cases n <;> simp only [Bool.not_true, Bool.not_false, if_true, if_false, Bool.false_eq_true] <;> omega
    rw [ev]
    have hb : 0 ≤ hi ∧ hi ≤ 18446744073709551615 ∧ 0 ≤ lo ∧ lo ≤ 18446744073709551615 := by clear r1 r2 hc hc2 cs cc; omega
    have cf := Hd (fit_c n hi lo hb.1 hb.2.1 hb.2.2.1 hb.2.2.2)
    generalize R (neg n (hi * 18446744073709551616 + lo)) = r at *
    clear ev hlo hc hhi hc2 hcb hb hs
    replace cs := Hd cs
    unfold wv at *
    dsimp only at *
    obtain ⟨⟨rn, rh, rl⟩, rc⟩ := r
    dsimp only at *
    cases n with
    | false =>
      go_enter Tryz.func151, Tryz.ntmps151
      go_wp2_with fail
      refine (cc.out _).mono ?_
      rintro e w1 ⟨rfl, hb1⟩
      obtain ⟨gx, gy, gz, hb⟩ := three_new (x := ⟨false, h, l⟩) (y := ⟨true, g, k⟩) (z := ⟨false, 0, 0⟩) hb1
      have hs := hb.size
      obtain ⟨x0, x1, x2⟩ := gx.all
      obtain ⟨y0, y1, y2⟩ := gy.all
      dsimp only at x0 x1 x2 y0 y1 y2
      clear hb1
      replace gx := Hd gx
      replace gy := Hd gy
      replace gz := Hd gz
      replace hb := Hd hb
      go_wp2_with fail
      refine (cs.out _).mono ?_
      rintro e w2 ⟨rfl, hb2⟩
      clear x0 x1 x2 y0 y1 y2
      have gx2 := gx.out.below hb2
      have gy2 := gy.out.below hb2
      have gz2 := gz.out.below hb2
      obtain ⟨x0, x1, x2⟩ := gx2.all
      obtain ⟨y0, y1, y2⟩ := gy2.all
      dsimp only at x0 x1 x2 y0 y1 y2
      replace gz2 := Hd gz2
      replace hb2 := Hd (hb.out.trans (hb2.mono hs))
      clear gx gy gx2 gy2 gz hb hs
      have hb := hb2
      have gz := gz2
      have hs := hb.out.size
      clear gz2 hb2
      go_wp2_with fail
      refine (cf.out _).mono ?_
      rintro e w9 ⟨rfl, hb9⟩
      have gz9 := gz.out.below hb9
      obtain ⟨z0, z1, z2⟩ := gz9.all
      have zf := gz9.f
      obtain ⟨r0, r1, r2, hfin⟩ := last_set (w := w) (B := w.heap.size) gz9 ⟨rn, rh, rl⟩ (hb.out.trans (hb9.mono hs)) (by omega)
      dsimp only at r0 r1 r2 hfin
      replace hfin := Hd hfin
      clear x0 x1 x2 y0 y1 y2 gz gz9 hb9 hb
      go_wp2_with fail
      (try simp only [Exit.inBlock, Exit.then])
      refine bodyPost_ret (by simp [results, Tryz.results151, go_sem, r0, r1, r2]; try rfl) rfl ?_
      exact ⟨rfl, hfin.out⟩
    | true =>
      go_enter Tryz.func151, Tryz.ntmps151
      go_wp2_with fail
      refine (cc.out _).mono ?_
      rintro e w1 ⟨rfl, hb1⟩
      obtain ⟨gx, gy, gz, hb⟩ := three_new (x := ⟨true, h, l⟩) (y := ⟨false, g, k⟩) (z := ⟨false, 0, 0⟩) hb1
      have hs := hb.size
      obtain ⟨x0, x1, x2⟩ := gx.all
      obtain ⟨y0, y1, y2⟩ := gy.all
      dsimp only at x0 x1 x2 y0 y1 y2
      clear hb1
      replace gx := Hd gx
      replace gy := Hd gy
      replace gz := Hd gz
      replace hb := Hd hb
      go_wp2_with fail
      refine (cs.out _).mono ?_
      rintro e w2 ⟨rfl, hb2⟩
      clear x0 x1 x2 y0 y1 y2
      have gx2 := gx.out.below hb2
      have gy2 := gy.out.below hb2
      have gz2 := gz.out.below hb2
      obtain ⟨x0, x1, x2⟩ := gx2.all
      obtain ⟨y0, y1, y2⟩ := gy2.all
      dsimp only at x0 x1 x2 y0 y1 y2
      replace gz2 := Hd gz2
      replace hb2 := Hd (hb.out.trans (hb2.mono hs))
      clear gx gy gx2 gy2 gz hb hs
      have hb := hb2
      have gz := gz2
      have hs := hb.out.size
      clear gz2 hb2
      go_wp2_with fail
      refine (cf.out _).mono ?_
      rintro e w9 ⟨rfl, hb9⟩
      have gz9 := gz.out.below hb9
      obtain ⟨z0, z1, z2⟩ := gz9.all
      have zf := gz9.f
      obtain ⟨r0, r1, r2, hfin⟩ := last_set (w := w) (B := w.heap.size) gz9 ⟨rn, rh, rl⟩ (hb.out.trans (hb9.mono hs)) (by omega)
      dsimp only at r0 r1 r2 hfin
      replace hfin := Hd hfin
      clear x0 x1 x2 y0 y1 y2 gz gz9 hb9 hb
      go_wp2_with fail
      (try simp only [Exit.inBlock, Exit.then])
      refine bodyPost_ret (by simp [results, Tryz.results151, go_sem, r0, r1, r2]; try rfl) rfl ?_
      exact ⟨rfl, hfin.out⟩
 ·rw [if_neg hb] at cc ⊢
  clear hb
  replace cc := Hd cc
  obtain ⟨n, h, l⟩ := x
  obtain ⟨m, g, k⟩ := y
  unfold wv zero at *
  dsimp only at *
  go_enter Tryz.func151, Tryz.ntmps151
  go_wp2_with fail
  refine (cc.out _).mono ?_
  rintro e w1 ⟨rfl, hb1⟩
  obtain ⟨gx, gy, gz, hb⟩ := three_new (x := ⟨n, h, l⟩) (y := ⟨m, g, k⟩) (z := ⟨false, 0, 0⟩) hb1
  have hs := hb.size
  obtain ⟨z0, z1, z2⟩ := gz.all
  have zf := gz.f
  obtain ⟨r0, r1, r2, hfin⟩ := last_set (w := w) (B := w.heap.size) gz ⟨false, 0, 0⟩ hb (by omega)
  dsimp only at r0 r1 r2 hfin
  replace hfin := Hd hfin
  clear gx gy gz hb1 hb
  go_wp2_with fail
  (try simp only [Exit.inBlock, Exit.then])
  refine bodyPost_ret (by simp [results, Tryz.results151, go_sem, r0, r1, r2]; try rfl) rfl ?_
  exact ⟨rfl, hfin.out⟩
end Go.Proofs.YtjjgbillihedgaaGreatDoor
