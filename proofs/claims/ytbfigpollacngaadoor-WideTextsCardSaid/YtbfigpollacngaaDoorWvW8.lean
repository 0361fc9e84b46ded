/- the walks over package wide, eighth part: quotient, rest, an int's number, the sign -/
import Derived.Test.YtbfigpollacngaaDoorWvW7
namespace Go.Proofs.YtbfigpollacngaaDoor
open Go.RowKit
open Rf
open Wide

theorem words (x : WI) (ho : x.Ok) (hf : x.form = true) : ∃ s : Nat, s < 170141183460469231731687303715884105728 ∧ x = ⟨x.n, (nw s).h, (nw s).l⟩ ∧ x.val = neg x.n s := by
  have hb := sz_bd ho hf
  refine ⟨x.sz.toNat, by omega, ?_, ?_⟩
  · obtain ⟨n, h, l⟩ := x
    obtain ⟨o1, o2, o3, o4⟩ := ho
    unfold WI.sz at *
    unfold nw
    dsimp only at *
    congr 1 <;> omega
  · have : ((x.sz.toNat : Nat) : Int) = x.sz := by omega
    rw [this]
    unfold WI.val neg
    rfl
theorem made_nw (n : Bool) (q : Nat) : made n (nw q).h (nw q).l = mk (neg n q) := by
  have h := nw_sz q
  unfold WI.sz at h
  rw [made_mk _ _ _ (by unfold nw; dsimp only; omega) (by unfold nw; dsimp only; omega) (by unfold nw; dsimp only; omega), h]
theorem nil2_nw (q : Nat) : nil2 (nw q).h (nw q).l = decide (q = 0) := by
  cases h : nil2 (nw q).h (nw q).l with
  | true => obtain ⟨a, b⟩ := nil2_true h; unfold nw at a b; dsimp only at a b; exact (decide_eq_true (by omega)).symm
  | false => have hh := nil2_false h; unfold nw at hh; dsimp only at hh; exact (decide_eq_false (by omega)).symm

set_option maxRecDepth 10000 in
set_option maxHeartbeats 2000000 in
theorem quo_c (x y : WI) (ho : x.Ok) (hp : y.Ok) (w : World) : Calls Tryd.prog 25 #[wv x, wv y] w fun e w' => e = .returned (.tuple #[wv (quoF x y).1, .int .i64 (quoF x y).2]) ∧ Below w.heap.size w w' := by
  have cc := check_c x y ho hp true
  rw [Bool.true_and] at cc
  unfold quoF
  by_cases hb : (x.form && y.form && !nil2 y.h y.l) = true
  · rw [if_pos hb] at cc ⊢
    obtain ⟨⟨hf, hg⟩, hn⟩ : (x.form = true ∧ y.form = true) ∧ nil2 y.h y.l = false := by simpa using hb
    obtain ⟨s, hs, ex, vx⟩ := words x ho hf
    obtain ⟨t, ht, ey, vy⟩ := words y hp hg
    obtain ⟨n, h, l⟩ := x
    obtain ⟨m, g, k⟩ := y
    have e1 : h = (nw s).h ∧ l = (nw s).l := by simpa using ex
    have e2 : g = (nw t).h ∧ k = (nw t).l := by simpa using ey
    obtain ⟨rfl, rfl⟩ := e1
    obtain ⟨rfl, rfl⟩ := e2
    rw [nil2_nw] at hn
    have ht0 : 0 < t := by have := of_decide_eq_false hn; omega
    have cd := divide_c n m s t hs ht0 ht
    have qb : s / t < 340282366920938463463374607431768211456 := Nat.lt_of_le_of_lt (Nat.div_le_self _ _) (Nat.lt_trans hs (by decide))
    have rb : s % t < 340282366920938463463374607431768211456 := Nat.lt_trans (Nat.mod_lt _ ht0) (Nat.lt_trans ht (by decide))
    obtain ⟨o1, o2, o3, o4⟩ := nw_ok qb
    have cm := made_c (n != m) (nw (s / t)).h (nw (s / t)).l o1 o2 o3 o4
    have ev : made (n != m) (nw (s / t)).h (nw (s / t)).l = mk ((⟨n, (nw s).h, (nw s).l⟩ : WI).val.tdiv (⟨m, (nw t).h, (nw t).l⟩ : WI).val) := by
      rw [made_nw, vx, vy]
      dsimp only
      rw [quo_sign]
      rfl
    rw [ev] at cm
    clear ev vx vy ex ey ho hp hb hf hg hn ht0 hs ht qb rb o1 o2 o3 o4
    generalize mk ((⟨n, (nw s).h, (nw s).l⟩ : WI).val.tdiv (⟨m, (nw t).h, (nw t).l⟩ : WI).val) = r at *
    obtain ⟨rn, rh, rl⟩ := r
    have qn : (nw (s / t)).n = false := rfl
    have un : (nw (s % t)).n = false := rfl
    generalize nw (s / t) = q at *
    generalize nw (s % t) = u at *
    obtain ⟨qn', qh, ql⟩ := q
    obtain ⟨un', uh, ul⟩ := u
    dsimp only at qn un
    subst qn
    subst un
    generalize (nw s).h = h at *
    generalize (nw s).l = l at *
    generalize (nw t).h = g at *
    generalize (nw t).l = k at *
    unfold wv at *
    dsimp only at *
    replace cc := Lib.hid cc
    replace cd := Lib.hid cd
    replace cm := Lib.hid cm
    go_enter Tryd.func25, Tryd.ntmps25
    go_wp2_with fail
    refine (cc.out _).mono ?_
    rintro e w1 ⟨rfl, hb1⟩
    obtain ⟨gx, gy, gz, hb⟩ := three_new (x := ⟨n, h, l⟩) (y := ⟨m, g, k⟩) (z := ⟨false, 0, 0⟩) hb1
    have hs := hb.size
    clear hb1
    obtain ⟨x0, x1, x2⟩ := gx.all
    obtain ⟨y0, y1, y2⟩ := gy.all
    dsimp only at x0 x1 x2 y0 y1 y2
    replace gx := Lib.hid gx
    replace gy := Lib.hid gy
    replace gz := Lib.hid gz
    replace hb := Lib.hid hb
    go_wp2_with fail
    refine (cd.out _).mono ?_
    rintro e w2 ⟨rfl, hb2⟩
    have gx2 := gx.out.below hb2
    have gy2 := gy.out.below hb2
    have gz2 := Lib.hid (gz.out.below hb2)
    replace hb2 := Lib.hid (hb.out.trans (hb2.mono hs))
    clear x0 x1 x2 y0 y1 y2 gx gy gz hb
    obtain ⟨x0, x1, x2⟩ := gx2.all
    obtain ⟨y0, y1, y2⟩ := gy2.all
    dsimp only at x0 x1 x2 y0 y1 y2
    have hs2 := hb2.out.size
    have lx := gx2.lt
    have ly := gy2.lt
    clear gx2 gy2
    go_wp2_with fail
    refine (cm.out _).mono ?_
    rintro e w3 ⟨rfl, hb3⟩
    have gz3 := ((gz2.out.alloc _).alloc _).below hb3
    obtain ⟨z0, z1, z2⟩ := gz3.all
    have zf := gz3.f
    have hb4 := (hb2.out.trans ((below2 w2 _ _).mono hs2)).trans (hb3.mono (by rw [size_alloc, size_alloc]; omega))
    obtain ⟨r0, r1, r2, hfin⟩ := last_set (w := w) (B := w.heap.size) gz3 ⟨rn, rh, rl⟩ hb4 (by omega)
    dsimp only at r0 r1 r2 hfin
    replace hfin := Lib.hid hfin
    clear x0 x1 x2 y0 y1 y2 gz2 gz3 hb2 hb3 hb4
    go_wp2_with fail
    (try simp only [Exit.inBlock, Exit.then])
    refine bodyPost_ret (by simp [results, Tryd.results25, go_sem, r0, r1, r2]; try rfl) rfl ?_
    exact ⟨rfl, hfin.out⟩
  · rw [if_neg hb] at cc ⊢
    clear hb
    replace cc := Lib.hid cc
    obtain ⟨n, h, l⟩ := x
    obtain ⟨m, g, k⟩ := y
    unfold wv zero at *
    dsimp only at *
    go_enter Tryd.func25, Tryd.ntmps25
    go_wp2_with fail
    refine (cc.out _).mono ?_
    rintro e w1 ⟨rfl, hb1⟩
    obtain ⟨gx, gy, gz, hb⟩ := three_new (x := ⟨n, h, l⟩) (y := ⟨m, g, k⟩) (z := ⟨false, 0, 0⟩) hb1
    have hs := hb.size
    obtain ⟨z0, z1, z2⟩ := gz.all
    have zf := gz.f
    obtain ⟨r0, r1, r2, hfin⟩ := last_set (w := w) (B := w.heap.size) gz ⟨false, 0, 0⟩ hb (by omega)
    dsimp only at r0 r1 r2 hfin
    replace hfin := Lib.hid hfin
    clear gx gy gz hb1 hb
    go_wp2_with fail
    (try simp only [Exit.inBlock, Exit.then])
    refine bodyPost_ret (by simp [results, Tryd.results25, go_sem, r0, r1, r2]; try rfl) rfl ?_
    exact ⟨rfl, hfin.out⟩

set_option maxRecDepth 10000 in
set_option maxHeartbeats 2000000 in
theorem rem_c (x y : WI) (ho : x.Ok) (hp : y.Ok) (w : World) : Calls Tryd.prog 26 #[wv x, wv y] w fun e w' => e = .returned (.tuple #[wv (remF x y).1, .int .i64 (remF x y).2]) ∧ Below w.heap.size w w' := by
  have cc := check_c x y ho hp true
  rw [Bool.true_and] at cc
  unfold remF
  by_cases hb : (x.form && y.form && !nil2 y.h y.l) = true
  · rw [if_pos hb] at cc ⊢
    obtain ⟨⟨hf, hg⟩, hn⟩ : (x.form = true ∧ y.form = true) ∧ nil2 y.h y.l = false := by simpa using hb
    obtain ⟨s, hs, ex, vx⟩ := words x ho hf
    obtain ⟨t, ht, ey, vy⟩ := words y hp hg
    obtain ⟨n, h, l⟩ := x
    obtain ⟨m, g, k⟩ := y
    have e1 : h = (nw s).h ∧ l = (nw s).l := by simpa using ex
    have e2 : g = (nw t).h ∧ k = (nw t).l := by simpa using ey
    obtain ⟨rfl, rfl⟩ := e1
    obtain ⟨rfl, rfl⟩ := e2
    rw [nil2_nw] at hn
    have ht0 : 0 < t := by have := of_decide_eq_false hn; omega
    have cd := divide_c n m s t hs ht0 ht
    have qb : s / t < 340282366920938463463374607431768211456 := Nat.lt_of_le_of_lt (Nat.div_le_self _ _) (Nat.lt_trans hs (by decide))
    have rb : s % t < 340282366920938463463374607431768211456 := Nat.lt_trans (Nat.mod_lt _ ht0) (Nat.lt_trans ht (by decide))
    obtain ⟨o1, o2, o3, o4⟩ := nw_ok rb
    have cm := made_c n (nw (s % t)).h (nw (s % t)).l o1 o2 o3 o4
    have ev : made n (nw (s % t)).h (nw (s % t)).l = mk ((⟨n, (nw s).h, (nw s).l⟩ : WI).val.tmod (⟨m, (nw t).h, (nw t).l⟩ : WI).val) := by
      rw [made_nw, vx, vy]
      dsimp only
      rw [rem_sign]
      rfl
    rw [ev] at cm
    clear ev vx vy ex ey ho hp hb hf hg hn ht0 hs ht qb rb o1 o2 o3 o4
    generalize mk ((⟨n, (nw s).h, (nw s).l⟩ : WI).val.tmod (⟨m, (nw t).h, (nw t).l⟩ : WI).val) = r at *
    obtain ⟨rn, rh, rl⟩ := r
    have qn : (nw (s / t)).n = false := rfl
    have un : (nw (s % t)).n = false := rfl
    generalize nw (s / t) = q at *
    generalize nw (s % t) = u at *
    obtain ⟨qn', qh, ql⟩ := q
    obtain ⟨un', uh, ul⟩ := u
    dsimp only at qn un
    subst qn
    subst un
    generalize (nw s).h = h at *
    generalize (nw s).l = l at *
    generalize (nw t).h = g at *
    generalize (nw t).l = k at *
    unfold wv at *
    dsimp only at *
    replace cc := Lib.hid cc
    replace cd := Lib.hid cd
    replace cm := Lib.hid cm
    go_enter Tryd.func26, Tryd.ntmps26
    go_wp2_with fail
    refine (cc.out _).mono ?_
    rintro e w1 ⟨rfl, hb1⟩
    obtain ⟨gx, gy, gz, hb⟩ := three_new (x := ⟨n, h, l⟩) (y := ⟨m, g, k⟩) (z := ⟨false, 0, 0⟩) hb1
    have hs := hb.size
    clear hb1
    obtain ⟨x0, x1, x2⟩ := gx.all
    obtain ⟨y0, y1, y2⟩ := gy.all
    dsimp only at x0 x1 x2 y0 y1 y2
    replace gx := Lib.hid gx
    replace gy := Lib.hid gy
    replace gz := Lib.hid gz
    replace hb := Lib.hid hb
    go_wp2_with fail
    refine (cd.out _).mono ?_
    rintro e w2 ⟨rfl, hb2⟩
    have gx2 := gx.out.below hb2
    have gy2 := gy.out.below hb2
    have gz2 := Lib.hid (gz.out.below hb2)
    replace hb2 := Lib.hid (hb.out.trans (hb2.mono hs))
    clear x0 x1 x2 y0 y1 y2 gx gy gz hb
    obtain ⟨x0, x1, x2⟩ := gx2.all
    obtain ⟨y0, y1, y2⟩ := gy2.all
    dsimp only at x0 x1 x2 y0 y1 y2
    have hs2 := hb2.out.size
    have lx := gx2.lt
    have ly := gy2.lt
    clear gx2 gy2
    go_wp2_with fail
    refine (cm.out _).mono ?_
    rintro e w3 ⟨rfl, hb3⟩
    have gz3 := ((gz2.out.alloc _).alloc _).below hb3
    obtain ⟨z0, z1, z2⟩ := gz3.all
    have zf := gz3.f
    have hb4 := (hb2.out.trans ((below2 w2 _ _).mono hs2)).trans (hb3.mono (by rw [size_alloc, size_alloc]; omega))
    obtain ⟨r0, r1, r2, hfin⟩ := last_set (w := w) (B := w.heap.size) gz3 ⟨rn, rh, rl⟩ hb4 (by omega)
    dsimp only at r0 r1 r2 hfin
    replace hfin := Lib.hid hfin
    clear x0 x1 x2 y0 y1 y2 gz2 gz3 hb2 hb3 hb4
    go_wp2_with fail
    (try simp only [Exit.inBlock, Exit.then])
    refine bodyPost_ret (by simp [results, Tryd.results26, go_sem, r0, r1, r2]; try rfl) rfl ?_
    exact ⟨rfl, hfin.out⟩
  · rw [if_neg hb] at cc ⊢
    clear hb
    replace cc := Lib.hid cc
    obtain ⟨n, h, l⟩ := x
    obtain ⟨m, g, k⟩ := y
    unfold wv zero at *
    dsimp only at *
    go_enter Tryd.func26, Tryd.ntmps26
    go_wp2_with fail
    refine (cc.out _).mono ?_
    rintro e w1 ⟨rfl, hb1⟩
    obtain ⟨gx, gy, gz, hb⟩ := three_new (x := ⟨n, h, l⟩) (y := ⟨m, g, k⟩) (z := ⟨false, 0, 0⟩) hb1
    have hs := hb.size
    obtain ⟨z0, z1, z2⟩ := gz.all
    have zf := gz.f
    obtain ⟨r0, r1, r2, hfin⟩ := last_set (w := w) (B := w.heap.size) gz ⟨false, 0, 0⟩ hb (by omega)
    dsimp only at r0 r1 r2 hfin
    replace hfin := Lib.hid hfin
    clear gx gy gz hb1 hb
    go_wp2_with fail
    (try simp only [Exit.inBlock, Exit.then])
    refine bodyPost_ret (by simp [results, Tryd.results26, go_sem, r0, r1, r2]; try rfl) rfl ?_
    exact ⟨rfl, hfin.out⟩

end Go.Proofs.YtbfigpollacngaaDoor
