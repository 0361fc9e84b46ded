/- the walks over retrofitref01, third part: which Int is greater -/
import Derived.Test.YtbfigpollacngaaDoorNmW2
import Derived.Test.YtbfigpollacngaaDoorCt
namespace Go.Proofs.YtbfigpollacngaaDoor
open Go.RowKit
open Rf
open Wide
attribute [local go_sem ↓] Go.wp_at_zero Go.wp_at_succ

def refCmp (x y : WI) : Int := if x.n = y.n then (if x.n = true then - sgn (x.sz - y.sz) else sgn (x.sz - y.sz)) else (if x.n = true then -1 else 1)
theorem isN_b {w w' : World} {b : Nat} {x : WI} (hb : Below w.heap.size w w') (h : IsN w b x) : IsN w' b x := h.below hb

set_option maxRecDepth 100000 in
set_option maxHeartbeats 4000000 in
theorem rcmp_dt (x y : WI) (h1 : x.n = true) (h2 : y.n = false) (w : World) : Calls Tryd.prog 28 #[wv x, wv y] w fun e w' => e = .returned (.int .i64 (-1)) ∧ Below w.heap.size w w' := by
  obtain ⟨xn, xh, xl⟩ := x
  obtain ⟨yn, yh, yl⟩ := y
  unfold wv at *
  dsimp only at *
  subst h1 h2
  go_enter Tryd.func28, Tryd.ntmps28
  go_wp2_with fail
  go_ret
  exact ⟨rfl, below2 w (oN ⟨true, xh, xl⟩) (oN ⟨false, yh, yl⟩)⟩

set_option maxRecDepth 100000 in
set_option maxHeartbeats 4000000 in
theorem rcmp_df (x y : WI) (h1 : x.n = false) (h2 : y.n = true) (w : World) : Calls Tryd.prog 28 #[wv x, wv y] w fun e w' => e = .returned (.int .i64 (1)) ∧ Below w.heap.size w w' := by
  obtain ⟨xn, xh, xl⟩ := x
  obtain ⟨yn, yh, yl⟩ := y
  unfold wv at *
  dsimp only at *
  subst h1 h2
  go_enter Tryd.func28, Tryd.ntmps28
  go_wp2_with fail
  go_ret
  exact ⟨rfl, below2 w (oN ⟨false, xh, xl⟩) (oN ⟨true, yh, yl⟩)⟩

set_option maxRecDepth 100000 in
set_option maxHeartbeats 4000000 in
theorem rcmp_st (x y : WI) (h1 : x.n = true) (h2 : y.n = true) (s : Int) (s0 : -1 ≤ s) (s1 : s ≤ 1) (X Y : Value) (cx : Ret 40 #[wv x] X) (cy : Ret 40 #[wv y] Y) (cs : Ret 47 #[X, Y] (.int .i64 s)) (w : World) : Calls Tryd.prog 28 #[wv x, wv y] w fun e w' => e = .returned (.int .i64 (-s)) ∧ Below w.heap.size w w' := by
  obtain ⟨xn, xh, xl⟩ := x
  obtain ⟨yn, yh, yl⟩ := y
  unfold wv at *
  dsimp only at *
  subst h1 h2
  go_enter Tryd.func28, Tryd.ntmps28
  obtain ⟨gx, gy, hb⟩ := two_new (Below.refl _ ((w.alloc (oN ⟨true, xh, xl⟩)).alloc (oN ⟨true, yh, yl⟩)))
  replace gx := Lib.hid gx
  replace gy := Lib.hid gy
  replace hb := Lib.hid hb
  have hs := hb.out.size
  replace hb := Lib.hid (below_drewed hb.out)
  clear hs
  have hs := hb.out.size
  obtain ⟨cx0, cx1, cx2⟩ := gx.out.all
  obtain ⟨cy0, cy1, cy2⟩ := gy.out.all
  dsimp only at cx0 cx1 cx2 cy0 cy1 cy2
  go_wp2_with fail
  refine wp_region_held_at (S := fun w1 => w1.cell? ⟨w.heap.size, 0, none⟩ = some (.bool true) ∧ w1.cell? ⟨w.heap.size, 1, none⟩ = some (.int .u64 xh) ∧ w1.cell? ⟨w.heap.size, 2, none⟩ = some (.int .u64 xl) ∧ w1.cell? ⟨w.heap.size + 1, 0, none⟩ = some (.bool true) ∧ w1.cell? ⟨w.heap.size + 1, 1, none⟩ = some (.int .u64 yh) ∧ w1.cell? ⟨w.heap.size + 1, 2, none⟩ = some (.int .u64 yl)) 6 rfl (by kernel_rfl) (by go_keep) (fun hH => ?_)
  refine wpAnyH_take (i := 0) (v := ?_) rfl (by decide +kernel) (by decide +kernel) (by decide +kernel) (fun _ _ _ h => h) (Or.inl ⟨by rfl, ?_⟩) (by assumption) ?_
  rotate_left
  · intro w1 hSw; (try dsimp only at hSw); (try simp only [List.getElem_toArray, List.getElem_cons_zero]); go_simp; try with_reducible rfl
  try simp only [List.getElem_toArray, List.getElem_cons_zero, Act.put, List.setIfInBounds_toArray, List.set_cons_zero, List.set_cons_succ]
  refine wpAnyH_take (i := 2) (v := ?_) rfl (by decide +kernel) (by decide +kernel) (by decide +kernel) (fun _ _ _ h => h) (Or.inl ⟨by rfl, ?_⟩) (by assumption) ?_
  rotate_left
  · intro w1 hSw; (try dsimp only at hSw); (try simp only [List.getElem_toArray, List.getElem_cons_zero, List.getElem_cons_succ]); go_simp; try with_reducible rfl
  try simp only [List.getElem_toArray, List.getElem_cons_zero, List.getElem_cons_succ, Act.put, List.setIfInBounds_toArray, List.set_cons_zero, List.set_cons_succ]
  refine wpAnyH_ready (rs := [1]) (by decide +kernel) (by simp) ?_
  refine AllReadyH.cons rfl (fun K hK => ?_) AllReadyH.nil
  (try simp only [List.getElem_toArray, List.getElem_cons_zero, List.getElem_cons_succ])
  go_simp
  refine (cx.on _).mono ?_
  rintro e wr ⟨rfl, hbr⟩
  have hb2 := Lib.hid (hb.out.trans (hbr.mono hs))
  clear hb hs
  have hb := hb2
  clear hb2
  have hs := hb.out.size
  have gg := Lib.hid (isN_b hbr gx.out)
  clear gx
  have gx := gg
  clear gg
  have gg := Lib.hid (isN_b hbr gy.out)
  clear gy
  have gy := gg
  clear gg
  clear hH hbr cx0 cx1 cx2 cy0 cy1 cy2
  obtain ⟨cx0, cx1, cx2⟩ := gx.out.all
  obtain ⟨cy0, cy1, cy2⟩ := gy.out.all
  dsimp only at cx0 cx1 cx2 cy0 cy1 cy2
  go_simp
  refine hK.out _ _ (by go_keep) (fun hH => ?_)
  clear hK K
  try simp only [List.getElem_toArray, List.getElem_cons_zero, List.getElem_cons_succ, Act.put, List.setIfInBounds_toArray, List.set_cons_zero, List.set_cons_succ]
  refine wpAnyH_ready (rs := [3]) (by decide +kernel) (by simp) ?_
  refine AllReadyH.cons rfl (fun K hK => ?_) AllReadyH.nil
  (try simp only [List.getElem_toArray, List.getElem_cons_zero, List.getElem_cons_succ])
  go_simp
  refine (cy.on _).mono ?_
  rintro e wr ⟨rfl, hbr⟩
  have hb2 := Lib.hid (hb.out.trans (hbr.mono hs))
  clear hb hs
  have hb := hb2
  clear hb2
  have hs := hb.out.size
  have gg := Lib.hid (isN_b hbr gx.out)
  clear gx
  have gx := gg
  clear gg
  have gg := Lib.hid (isN_b hbr gy.out)
  clear gy
  have gy := gg
  clear gg
  clear hH hbr cx0 cx1 cx2 cy0 cy1 cy2
  obtain ⟨cx0, cx1, cx2⟩ := gx.out.all
  obtain ⟨cy0, cy1, cy2⟩ := gy.out.all
  dsimp only at cx0 cx1 cx2 cy0 cy1 cy2
  go_simp
  refine hK.out _ _ (by go_keep) (fun hH => ?_)
  clear hK K
  try simp only [List.getElem_toArray, List.getElem_cons_zero, List.getElem_cons_succ, Act.put, List.setIfInBounds_toArray, List.set_cons_zero, List.set_cons_succ]
  refine wpAnyH_ready (rs := [4]) (by decide +kernel) (by simp) ?_
  refine AllReadyH.cons rfl (fun K hK => ?_) AllReadyH.nil
  (try simp only [List.getElem_toArray, List.getElem_cons_zero, List.getElem_cons_succ])
  go_simp
  refine (cs.on _).mono ?_
  rintro e wr ⟨rfl, hbr⟩
  have hb2 := Lib.hid (hb.out.trans (hbr.mono hs))
  clear hb hs
  have hb := hb2
  clear hb2
  have hs := hb.out.size
  have gg := Lib.hid (isN_b hbr gx.out)
  clear gx
  have gx := gg
  clear gg
  have gg := Lib.hid (isN_b hbr gy.out)
  clear gy
  have gy := gg
  clear gg
  clear hH hbr cx0 cx1 cx2 cy0 cy1 cy2
  obtain ⟨cx0, cx1, cx2⟩ := gx.out.all
  obtain ⟨cy0, cy1, cy2⟩ := gy.out.all
  dsimp only at cx0 cx1 cx2 cy0 cy1 cy2
  go_simp
  refine hK.out _ _ (by go_keep) (fun hH => ?_)
  clear hK K
  try simp only [List.getElem_toArray, List.getElem_cons_zero, List.getElem_cons_succ, Act.put, List.setIfInBounds_toArray, List.set_cons_zero, List.set_cons_succ]
  refine wpAnyH_take (i := 5) (v := ?_) rfl (by decide +kernel) (by decide +kernel) (by decide +kernel) (fun _ _ _ h => h) (Or.inl ⟨by rfl, ?_⟩) (by assumption) ?_
  rotate_left
  · intro w1 hSw; (try dsimp only at hSw); (try simp only [List.getElem_toArray, List.getElem_cons_zero, List.getElem_cons_succ]); go_simp; try with_reducible rfl
  try simp only [List.getElem_toArray, List.getElem_cons_zero, List.getElem_cons_succ, Act.put, List.setIfInBounds_toArray, List.set_cons_zero, List.set_cons_succ]
  refine wpAnyH_done (by decide +kernel) ?_ _
  clear hH
  go_wp2_with fail
  go_ret
  exact ⟨rfl, hb.out⟩

set_option maxRecDepth 100000 in
set_option maxHeartbeats 4000000 in
theorem rcmp_sf (x y : WI) (h1 : x.n = false) (h2 : y.n = false) (s : Int) (X Y : Value) (cx : Ret 40 #[wv x] X) (cy : Ret 40 #[wv y] Y) (cs : Ret 47 #[X, Y] (.int .i64 s)) (w : World) : Calls Tryd.prog 28 #[wv x, wv y] w fun e w' => e = .returned (.int .i64 (s)) ∧ Below w.heap.size w w' := by
  obtain ⟨xn, xh, xl⟩ := x
  obtain ⟨yn, yh, yl⟩ := y
  unfold wv at *
  dsimp only at *
  subst h1 h2
  go_enter Tryd.func28, Tryd.ntmps28
  obtain ⟨gx, gy, hb⟩ := two_new (Below.refl _ ((w.alloc (oN ⟨false, xh, xl⟩)).alloc (oN ⟨false, yh, yl⟩)))
  replace gx := Lib.hid gx
  replace gy := Lib.hid gy
  replace hb := Lib.hid hb
  have hs := hb.out.size
  replace hb := Lib.hid (below_drewed hb.out)
  clear hs
  have hs := hb.out.size
  obtain ⟨cx0, cx1, cx2⟩ := gx.out.all
  obtain ⟨cy0, cy1, cy2⟩ := gy.out.all
  dsimp only at cx0 cx1 cx2 cy0 cy1 cy2
  go_wp2_with fail
  refine wp_region_held_at (S := fun w1 => w1.cell? ⟨w.heap.size, 0, none⟩ = some (.bool false) ∧ w1.cell? ⟨w.heap.size, 1, none⟩ = some (.int .u64 xh) ∧ w1.cell? ⟨w.heap.size, 2, none⟩ = some (.int .u64 xl) ∧ w1.cell? ⟨w.heap.size + 1, 0, none⟩ = some (.bool false) ∧ w1.cell? ⟨w.heap.size + 1, 1, none⟩ = some (.int .u64 yh) ∧ w1.cell? ⟨w.heap.size + 1, 2, none⟩ = some (.int .u64 yl)) 6 rfl (by kernel_rfl) (by go_keep) (fun hH => ?_)
  refine wpAnyH_take (i := 0) (v := ?_) rfl (by decide +kernel) (by decide +kernel) (by decide +kernel) (fun _ _ _ h => h) (Or.inl ⟨by rfl, ?_⟩) (by assumption) ?_
  rotate_left
  · intro w1 hSw; (try dsimp only at hSw); (try simp only [List.getElem_toArray, List.getElem_cons_zero]); go_simp; try with_reducible rfl
  try simp only [List.getElem_toArray, List.getElem_cons_zero, Act.put, List.setIfInBounds_toArray, List.set_cons_zero, List.set_cons_succ]
  refine wpAnyH_take (i := 2) (v := ?_) rfl (by decide +kernel) (by decide +kernel) (by decide +kernel) (fun _ _ _ h => h) (Or.inl ⟨by rfl, ?_⟩) (by assumption) ?_
  rotate_left
  · intro w1 hSw; (try dsimp only at hSw); (try simp only [List.getElem_toArray, List.getElem_cons_zero, List.getElem_cons_succ]); go_simp; try with_reducible rfl
  try simp only [List.getElem_toArray, List.getElem_cons_zero, List.getElem_cons_succ, Act.put, List.setIfInBounds_toArray, List.set_cons_zero, List.set_cons_succ]
  refine wpAnyH_ready (rs := [1]) (by decide +kernel) (by simp) ?_
  refine AllReadyH.cons rfl (fun K hK => ?_) AllReadyH.nil
  (try simp only [List.getElem_toArray, List.getElem_cons_zero, List.getElem_cons_succ])
  go_simp
  refine (cx.on _).mono ?_
  rintro e wr ⟨rfl, hbr⟩
  have hb2 := Lib.hid (hb.out.trans (hbr.mono hs))
  clear hb hs
  have hb := hb2
  clear hb2
  have hs := hb.out.size
  have gg := Lib.hid (isN_b hbr gx.out)
  clear gx
  have gx := gg
  clear gg
  have gg := Lib.hid (isN_b hbr gy.out)
  clear gy
  have gy := gg
  clear gg
  clear hH hbr cx0 cx1 cx2 cy0 cy1 cy2
  obtain ⟨cx0, cx1, cx2⟩ := gx.out.all
  obtain ⟨cy0, cy1, cy2⟩ := gy.out.all
  dsimp only at cx0 cx1 cx2 cy0 cy1 cy2
  go_simp
  refine hK.out _ _ (by go_keep) (fun hH => ?_)
  clear hK K
  try simp only [List.getElem_toArray, List.getElem_cons_zero, List.getElem_cons_succ, Act.put, List.setIfInBounds_toArray, List.set_cons_zero, List.set_cons_succ]
  refine wpAnyH_ready (rs := [3]) (by decide +kernel) (by simp) ?_
  refine AllReadyH.cons rfl (fun K hK => ?_) AllReadyH.nil
  (try simp only [List.getElem_toArray, List.getElem_cons_zero, List.getElem_cons_succ])
  go_simp
  refine (cy.on _).mono ?_
  rintro e wr ⟨rfl, hbr⟩
  have hb2 := Lib.hid (hb.out.trans (hbr.mono hs))
  clear hb hs
  have hb := hb2
  clear hb2
  have hs := hb.out.size
  have gg := Lib.hid (isN_b hbr gx.out)
  clear gx
  have gx := gg
  clear gg
  have gg := Lib.hid (isN_b hbr gy.out)
  clear gy
  have gy := gg
  clear gg
  clear hH hbr cx0 cx1 cx2 cy0 cy1 cy2
  obtain ⟨cx0, cx1, cx2⟩ := gx.out.all
  obtain ⟨cy0, cy1, cy2⟩ := gy.out.all
  dsimp only at cx0 cx1 cx2 cy0 cy1 cy2
  go_simp
  refine hK.out _ _ (by go_keep) (fun hH => ?_)
  clear hK K
  try simp only [List.getElem_toArray, List.getElem_cons_zero, List.getElem_cons_succ, Act.put, List.setIfInBounds_toArray, List.set_cons_zero, List.set_cons_succ]
  refine wpAnyH_ready (rs := [4]) (by decide +kernel) (by simp) ?_
  refine AllReadyH.cons rfl (fun K hK => ?_) AllReadyH.nil
  (try simp only [List.getElem_toArray, List.getElem_cons_zero, List.getElem_cons_succ])
  go_simp
  refine (cs.on _).mono ?_
  rintro e wr ⟨rfl, hbr⟩
  have hb2 := Lib.hid (hb.out.trans (hbr.mono hs))
  clear hb hs
  have hb := hb2
  clear hb2
  have hs := hb.out.size
  have gg := Lib.hid (isN_b hbr gx.out)
  clear gx
  have gx := gg
  clear gg
  have gg := Lib.hid (isN_b hbr gy.out)
  clear gy
  have gy := gg
  clear gg
  clear hH hbr cx0 cx1 cx2 cy0 cy1 cy2
  obtain ⟨cx0, cx1, cx2⟩ := gx.out.all
  obtain ⟨cy0, cy1, cy2⟩ := gy.out.all
  dsimp only at cx0 cx1 cx2 cy0 cy1 cy2
  go_simp
  refine hK.out _ _ (by go_keep) (fun hH => ?_)
  clear hK K
  try simp only [List.getElem_toArray, List.getElem_cons_zero, List.getElem_cons_succ, Act.put, List.setIfInBounds_toArray, List.set_cons_zero, List.set_cons_succ]
  refine wpAnyH_take (i := 5) (v := ?_) rfl (by decide +kernel) (by decide +kernel) (by decide +kernel) (fun _ _ _ h => h) (Or.inl ⟨by rfl, ?_⟩) (by assumption) ?_
  rotate_left
  · intro w1 hSw; (try dsimp only at hSw); (try simp only [List.getElem_toArray, List.getElem_cons_zero, List.getElem_cons_succ]); go_simp; try with_reducible rfl
  try simp only [List.getElem_toArray, List.getElem_cons_zero, List.getElem_cons_succ, Act.put, List.setIfInBounds_toArray, List.set_cons_zero, List.set_cons_succ]
  refine wpAnyH_done (by decide +kernel) ?_ _
  clear hH
  go_wp2_with fail
  go_ret
  exact ⟨rfl, hb.out⟩

theorem sgn_bd (v : Int) : -1 ≤ sgn v ∧ sgn v ≤ 1 := by unfold sgn; split <;> (try split) <;> omega
theorem refCmp_c (x y : WI) (ho : x.Ok) (hp : y.Ok) : Ret 28 #[wv x, wv y] (.int .i64 (refCmp x y)) := fun w => by
  have cx : Ret 40 #[wv x] (nv x.n (dgs x)) := fun w => from_c x ho w
  have cy : Ret 40 #[wv y] (nv y.n (dgs y)) := fun w => from_c y hp w
  have cs : Ret 47 #[nv x.n (dgs x), nv y.n (dgs y)] (.int .i64 (sgn (x.sz - y.sz))) := fun w => by
    have := size_d x.n y.n (dgs x) (dgs y) (dgs_dig x) (dgs_dig y) (dgs_length x) (dgs_length y) w
    rw [dgs_val ho, dgs_val hp] at this
    exact this
  obtain ⟨s0, s1⟩ := sgn_bd (x.sz - y.sz)
  unfold refCmp
  cases h1 : x.n <;> cases h2 : y.n
  · exact rcmp_sf x y h1 h2 _ _ _ cx cy cs w
  · exact rcmp_df x y h1 h2 w
  · exact rcmp_dt x y h1 h2 w
  · exact rcmp_st x y h1 h2 _ s0 s1 _ _ cx cy cs w
/-- of two in form, which one is greater -/
theorem refCmp_val {x y : WI} (ho : x.Ok) (hp : y.Ok) (hf : x.form = true) (hg : y.form = true) : refCmp x y = sgn (x.val - y.val) := by
  have hx := sz_bd ho hf
  have hy := sz_bd hp hg
  unfold refCmp WI.val
  cases hn : x.n <;> cases hm : y.n <;> simp only [if_true, if_false, Bool.false_eq_true, Bool.true_eq_false]
  · have : y.sz ≠ 0 := fun hh => by have := (sz_zero hp).1 hh; rw [form_neg hg hm] at this; cases this
    exact (sgn_pos (by omega)).symm
  · have : x.sz ≠ 0 := fun hh => by have := (sz_zero ho).1 hh; rw [form_neg hf hn] at this; cases this
    exact (sgn_neg (by omega)).symm
  · rw [show -x.sz - -y.sz = -(x.sz - y.sz) by omega]
    unfold sgn
    split <;> split <;> (try split) <;> (try split) <;> omega
end Go.Proofs.YtbfigpollacngaaDoor
