/- the walks over package wide, second part: order and signs -/
import Derived.Test.YtbfigpollacngaaDoorWvW
namespace Go.Proofs.YtbfigpollacngaaDoor
open Go.RowKit
open Rf
open Wide

abbrev oN (x : WI) : Obj := .cells #[.bool x.n, .int .u64 x.h, .int .u64 x.l] 24
theorem IsN.all {w : World} {b : Nat} {x : WI} (h : IsN w b x) : w.cell? ⟨b, 0, none⟩ = some (.bool x.n) ∧ w.cell? ⟨b, 1, none⟩ = some (.int .u64 x.h) ∧ w.cell? ⟨b, 2, none⟩ = some (.int .u64 x.l) := ⟨h.c0, h.c1, h.c2⟩
theorem one_new {w w1 : World} {x : WI} (hb : Below (w.alloc (oN x)).heap.size (w.alloc (oN x)) w1) : IsN w1 w.heap.size x ∧ Below w.heap.size w w1 :=
  ⟨(IsN.new w x).below hb, (below1 w _).trans (hb.mono (by rw [size_alloc]; omega))⟩
theorem two_new {w w1 : World} {x y : WI} (hb : Below ((w.alloc (oN x)).alloc (oN y)).heap.size ((w.alloc (oN x)).alloc (oN y)) w1) :
    IsN w1 w.heap.size x ∧ IsN w1 (w.heap.size + 1) y ∧ Below w.heap.size w w1 := by
  refine ⟨((IsN.new w x).alloc _).below hb, ?_, (below2 w _ _).trans (hb.mono (by rw [size_alloc, size_alloc]; omega))⟩
  have := (IsN.new (w.alloc (oN x)) y).below hb
  rwa [size_alloc] at this
theorem three_new {w w1 : World} {x y z : WI} (hb : Below (((w.alloc (oN x)).alloc (oN y)).alloc (oN z)).heap.size (((w.alloc (oN x)).alloc (oN y)).alloc (oN z)) w1) :
    IsN w1 w.heap.size x ∧ IsN w1 (w.heap.size + 1) y ∧ IsN w1 (w.heap.size + 2) z ∧ Below w.heap.size w w1 := by
  refine ⟨(((IsN.new w x).alloc _).alloc _).below hb, ?_, ?_, (below3 w _ _ _).trans (hb.mono (by rw [size_alloc, size_alloc, size_alloc]; omega))⟩
  · have := ((IsN.new (w.alloc (oN x)) y).alloc _).below hb
    rwa [size_alloc] at this
  · have := (IsN.new ((w.alloc (oN x)).alloc (oN y)) z).below hb
    rwa [size_alloc, size_alloc] at this

theorem sgn_pos {v : Int} (h : 0 < v) : sgn v = 1 := by unfold sgn; rw [if_neg (by omega), if_neg (by omega)]
theorem sgn_neg {v : Int} (h : v < 0) : sgn v = -1 := by unfold sgn; rw [if_pos h]
theorem sgn_nil : sgn 0 = 0 := rfl

set_option maxHeartbeats 400000 in
theorem size_c (x y : WI) (ho : x.Ok) (hp : y.Ok) (w : World) : Calls Tryd.prog 33 #[wv x, wv y] w fun e w' => e = .returned (.int .i64 (sgn (x.sz - y.sz))) ∧ Below w.heap.size w w' := by
  obtain ⟨n, h, l⟩ := x
  obtain ⟨m, g, k⟩ := y
  obtain ⟨o1, o2, o3, o4⟩ := ho
  obtain ⟨p1, p2, p3, p4⟩ := hp
  dsimp only at o1 o2 o3 o4 p1 p2 p3 p4
  unfold wv WI.sz
  dsimp only
  rcases Int.lt_trichotomy h g with hh | hh | hh
  · have t : (h == g) = false := beq_eq_false_iff_ne.2 (by omega)
    rw [sgn_neg (by omega)]
    go_enter Tryd.func33, Tryd.ntmps33
    go_wp2
    go_ret
    exact ⟨rfl, below2 _ _ _⟩
  · subst hh
    rcases Int.lt_trichotomy l k with hl | hl | hl
    · have t : (l == k) = false := beq_eq_false_iff_ne.2 (by omega)
      rw [sgn_neg (by omega)]
      go_enter Tryd.func33, Tryd.ntmps33
      go_wp2
      go_ret
      exact ⟨rfl, below2 _ _ _⟩
    · subst hl
      rw [Int.sub_self, sgn_nil]
      go_enter Tryd.func33, Tryd.ntmps33
      go_wp2
      go_ret
      exact ⟨rfl, below2 _ _ _⟩
    · rw [sgn_pos (by omega)]
      go_enter Tryd.func33, Tryd.ntmps33
      go_wp2
      go_ret
      exact ⟨rfl, below2 _ _ _⟩
  · rw [sgn_pos (by omega)]
    go_enter Tryd.func33, Tryd.ntmps33
    go_wp2
    go_ret
    exact ⟨rfl, below2 _ _ _⟩

set_option maxRecDepth 10000 in
set_option maxHeartbeats 2000000 in
theorem cmp_c (x y : WI) (ho : x.Ok) (hp : y.Ok) (w : World) : Calls Tryd.prog 13 #[wv x, wv y] w fun e w' => e = .returned (.int .i64 (cmpF x y)) ∧ Below w.heap.size w w' := by
  have cx := form_c x ho
  have cy := form_c y hp
  have s1 := size_c x y ho hp
  have s2 := size_c y x hp ho
  have key : x.form = true → y.form = true → sgn (x.val - y.val) = if x.n = true then (if y.n = true then sgn (y.sz - x.sz) else -1) else (if y.n = true then 1 else sgn (x.sz - y.sz)) := by
    intro hf hg
    have hx := sz_bd ho hf
    have hy := sz_bd hp hg
    unfold WI.val
    cases hn : x.n <;> cases hm : y.n <;> simp only [if_true, if_false, Bool.false_eq_true]
    · have : y.sz ≠ 0 := fun hh => by have := (sz_zero hp).1 hh; rw [form_neg hg hm] at this; cases this
      exact sgn_pos (by omega)
    · have : x.sz ≠ 0 := fun hh => by have := (sz_zero ho).1 hh; rw [form_neg hf hn] at this; cases this
      exact sgn_neg (by omega)
    · congr 1; omega
  unfold cmpF
  generalize sgn (y.sz - x.sz) = q1 at *
  generalize sgn (x.sz - y.sz) = q2 at *
  generalize sgn (x.val - y.val) = q0 at *
  generalize x.form = f at *
  generalize y.form = g at *
  clear ho hp
  obtain ⟨n, h, l⟩ := x
  obtain ⟨m, j, k⟩ := y
  unfold wv at *
  dsimp only at *
  replace cx := Lib.hid cx
  replace cy := Lib.hid cy
  replace s1 := Lib.hid s1
  replace s2 := Lib.hid s2
  cases f with
  | false =>
    clear key
    go_enter Tryd.func13, Tryd.ntmps13
    go_wp2_with fail
    refine (cx.out _).mono ?_
    rintro e w1 ⟨rfl, hb1⟩
    obtain ⟨gx, gy, hb⟩ := two_new (x := ⟨n, h, l⟩) (y := ⟨m, j, k⟩) hb1
    clear gx gy hb1
    go_wp2_with fail
    go_ret
    exact ⟨rfl, hb⟩
  | true =>
    cases g with
    | false =>
      clear key
      go_enter Tryd.func13, Tryd.ntmps13
      go_wp2_with fail
      refine (cx.out _).mono ?_
      rintro e w1 ⟨rfl, hb1⟩
      obtain ⟨gx, gy, hb⟩ := two_new (x := ⟨n, h, l⟩) (y := ⟨m, j, k⟩) hb1
      obtain ⟨y0, y1, y2⟩ := gy.all
      dsimp only at y0 y1 y2
      have hs := hb.size
      clear gx gy hb1
      go_wp2_with fail
      refine (cy.out _).mono ?_
      rintro e w2 ⟨rfl, hb2⟩
      replace hb2 := hb.trans (hb2.mono hs)
      clear hb y0 y1 y2
      go_wp2_with fail
      go_ret
      exact ⟨rfl, hb2⟩
    | true =>
      rw [Bool.and_self, if_pos rfl, key rfl rfl]
      clear key
      cases n <;> cases m <;> simp only [if_true, if_false, Bool.false_eq_true]
      all_goals
        go_enter Tryd.func13, Tryd.ntmps13
        go_wp2_with fail
        refine (cx.out _).mono ?_
        rintro e w1 ⟨rfl, hb1⟩
        obtain ⟨gx, gy, hb⟩ := two_new (x := ⟨_, h, l⟩) (y := ⟨_, j, k⟩) hb1
        obtain ⟨y0, y1, y2⟩ := gy.all
        dsimp only at y0 y1 y2
        have hs := hb.size
        clear hb1
        replace gx := Lib.hid gx
        replace gy := Lib.hid gy
        go_wp2_with fail
        refine (cy.out _).mono ?_
        rintro e w2 ⟨rfl, hb2⟩
        clear y0 y1 y2
        obtain ⟨x0, x1, x2⟩ := (gx.out.below hb2).all
        obtain ⟨y0, y1, y2⟩ := (gy.out.below hb2).all
        dsimp only at x0 x1 x2 y0 y1 y2
        clear gx gy
        replace hb2 := Lib.hid (hb.trans (hb2.mono hs))
        clear hb
        have hs2 := hb2.out.size
        go_wp2_with fail
      · refine (s1.out _).mono ?_
        rintro e w3 ⟨rfl, hb3⟩
        clear x0 x1 x2 y0 y1 y2
        go_wp2_with fail
        go_ret
        exact ⟨rfl, hb2.out.trans (hb3.mono hs2)⟩
      · go_ret
        exact ⟨rfl, hb2.out⟩
      · go_ret
        exact ⟨rfl, hb2.out⟩
      · refine (s2.out _).mono ?_
        rintro e w3 ⟨rfl, hb3⟩
        clear x0 x1 x2 y0 y1 y2
        go_wp2_with fail
        go_ret
        exact ⟨rfl, hb2.out.trans (hb3.mono hs2)⟩
end Go.Proofs.YtbfigpollacngaaDoor
