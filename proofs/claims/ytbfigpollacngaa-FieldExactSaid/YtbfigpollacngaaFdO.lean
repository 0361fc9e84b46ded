/- the walk over FieldOrder -/
import Derived.Test.YtbfigpollacngaaFdA
namespace Go.Proofs.Ytbfigpollacngaa
open Go.RowKit
open Rf
open Wide
attribute [local go_sem ↓] Go.wp_at_zero Go.wp_at_succ

set_option maxRecDepth 100000 in
set_option maxHeartbeats 8000000 in
theorem fieldOrder_0 (k : Int) (x y : WI) (f0 f1 f3 : Bool) (cf : Ret 21 #[.int .i64 k, wv x] (.bool f0)) (cf1 : Ret 21 #[.int .i64 (k + 1), wv x] (.bool f1)) (cf3 : Ret 21 #[.int .i64 (k - 3), wv x] (.bool f3))
    (l1 : (2 ≤ k ∧ k < 5 ∨ 6 ≤ k ∧ k < 9) → f0 = true → f1 = true) (l3 : 6 ≤ k ∧ k < 9 → f0 = true → f3 = true) (sz : Int) (cs : Ret 15 #[.int .i64 k] (.int .i64 sz)) (hsz : (sz == 0) = true) (w : World) :
    Calls Try.prog 6 #[.int .i64 k, wv x, wv y] w fun e w' => e = .returned (.bool true) ∧ Below w.heap.size w w' := by
  obtain ⟨xn, xh, xl⟩ := x
  obtain ⟨yn, yh, yl⟩ := y
  unfold wv at *
  dsimp only at *
  go_enter Try.func6, Try.ntmps6
  go_wp2_with fail
  refine (awake_c.on _).mono ?_
  rintro e w1 ⟨rfl, hb1⟩
  obtain ⟨gx, gy, hb⟩ := two_new (x := ⟨xn, xh, xl⟩) (y := ⟨yn, yh, yl⟩) hb1
  have hs := hb.size
  clear hb1
  replace gx := Lib.hid gx
  replace gy := Lib.hid gy
  replace hb := Lib.hid hb
  replace l1 := Lib.hid l1
  replace l3 := Lib.hid l3
  replace hsz := Lib.hid hsz
  go_upto_region 3 with fail
  go_cut [34] (fun v0 wx => v0 = .bool false ∧ IsN wx (w.heap.size) ⟨xn, xh, xl⟩ ∧ IsN wx (w.heap.size + 1) ⟨yn, yh, yl⟩ ∧ Below w.heap.size w wx)
  case first =>
    rcases (show (2 ≤ k ∧ k < 5) ∨ (6 ≤ k ∧ k < 9) ∨ k < 2 ∨ k = 5 ∨ 9 ≤ k by omega) with hk | hk | hk | rfl | hk
    · skip
      cases f0 with
      | false =>
        obtain ⟨cx0, cx1, cx2⟩ := gx.out.all
        dsimp only at cx0 cx1 cx2
        go_wp2_with fail
        refine (cf.on _).mono ?_
        rintro e w2 ⟨rfl, hb2⟩
        replace gx := Lib.hid (isN_of hb2 gx.out)
        replace gy := Lib.hid (isN_of hb2 gy.out)
        replace hb := Lib.hid (hb.out.trans (hb2.mono hs))
        clear hs hb2
        have hs := hb.out.size
        clear cx0 cx1 cx2
        obtain ⟨cx0, cx1, cx2⟩ := gx.out.all
        dsimp only at cx0 cx1 cx2
        clear cx0 cx1 cx2
        go_wp2_with fail
        go_meet
        exact ⟨rfl, gx.out, gy.out, hb.out⟩
      | true =>
        obtain ⟨cx0, cx1, cx2⟩ := gx.out.all
        dsimp only at cx0 cx1 cx2
        go_wp2_with fail
        refine (cf.on _).mono ?_
        rintro e w2 ⟨rfl, hb2⟩
        replace gx := Lib.hid (isN_of hb2 gx.out)
        replace gy := Lib.hid (isN_of hb2 gy.out)
        replace hb := Lib.hid (hb.out.trans (hb2.mono hs))
        clear hs hb2
        have hs := hb.out.size
        clear cx0 cx1 cx2
        obtain ⟨cx0, cx1, cx2⟩ := gx.out.all
        dsimp only at cx0 cx1 cx2
        obtain rfl := l1.out (by omega) (by simp)
        go_wp2_with fail
        refine (cf1.on _).mono ?_
        rintro e w3 ⟨rfl, hb3⟩
        replace gx := Lib.hid (isN_of hb3 gx.out)
        replace gy := Lib.hid (isN_of hb3 gy.out)
        replace hb := Lib.hid (hb.out.trans (hb3.mono hs))
        clear hs hb3
        have hs := hb.out.size
        clear cx0 cx1 cx2
        go_wp2_with fail
        go_meet
        exact ⟨rfl, gx.out, gy.out, hb.out⟩
    · skip
      cases f0 with
      | false =>
        obtain ⟨cx0, cx1, cx2⟩ := gx.out.all
        dsimp only at cx0 cx1 cx2
        go_wp2_with fail
        refine (cf.on _).mono ?_
        rintro e w2 ⟨rfl, hb2⟩
        replace gx := Lib.hid (isN_of hb2 gx.out)
        replace gy := Lib.hid (isN_of hb2 gy.out)
        replace hb := Lib.hid (hb.out.trans (hb2.mono hs))
        clear hs hb2
        have hs := hb.out.size
        clear cx0 cx1 cx2
        obtain ⟨cx0, cx1, cx2⟩ := gx.out.all
        dsimp only at cx0 cx1 cx2
        clear cx0 cx1 cx2
        go_wp2_with fail
        go_meet
        exact ⟨rfl, gx.out, gy.out, hb.out⟩
      | true =>
        obtain ⟨cx0, cx1, cx2⟩ := gx.out.all
        dsimp only at cx0 cx1 cx2
        go_wp2_with fail
        refine (cf.on _).mono ?_
        rintro e w2 ⟨rfl, hb2⟩
        replace gx := Lib.hid (isN_of hb2 gx.out)
        replace gy := Lib.hid (isN_of hb2 gy.out)
        replace hb := Lib.hid (hb.out.trans (hb2.mono hs))
        clear hs hb2
        have hs := hb.out.size
        clear cx0 cx1 cx2
        obtain ⟨cx0, cx1, cx2⟩ := gx.out.all
        dsimp only at cx0 cx1 cx2
        obtain rfl := l1.out (by omega) (by simp)
        go_wp2_with fail
        refine (cf1.on _).mono ?_
        rintro e w3 ⟨rfl, hb3⟩
        replace gx := Lib.hid (isN_of hb3 gx.out)
        replace gy := Lib.hid (isN_of hb3 gy.out)
        replace hb := Lib.hid (hb.out.trans (hb3.mono hs))
        clear hs hb3
        have hs := hb.out.size
        clear cx0 cx1 cx2
        go_wp2_with fail
        go_meet
        exact ⟨rfl, gx.out, gy.out, hb.out⟩
    · skip
      go_wp2_with fail
      go_meet
      exact ⟨rfl, gx.out, gy.out, hb.out⟩
    · skip
      go_wp2_with fail
      go_meet
      exact ⟨rfl, gx.out, gy.out, hb.out⟩
    · skip
      go_wp2_with fail
      go_meet
      exact ⟨rfl, gx.out, gy.out, hb.out⟩
  obtain ⟨rfl, gx0, gy0, hb0⟩ := hcut
  clear hs hb gx gy
  have gx := Lib.hid gx0
  have gy := Lib.hid gy0
  have hb := Lib.hid hb0
  clear hb0 gx0 gy0
  have hs := hb.out.size
  go_upto_region 5 with fail
  go_cut [52] (fun v0 wx => v0 = .bool false ∧ IsN wx (w.heap.size) ⟨xn, xh, xl⟩ ∧ IsN wx (w.heap.size + 1) ⟨yn, yh, yl⟩ ∧ Below w.heap.size w wx)
  case first =>
    rcases (show (6 ≤ k ∧ k < 9) ∨ k < 6 ∨ 9 ≤ k by omega) with hk | hk | hk
    · skip
      cases f0 with
      | false =>
        obtain ⟨cx0, cx1, cx2⟩ := gx.out.all
        dsimp only at cx0 cx1 cx2
        go_wp2_with fail
        refine (cf.on _).mono ?_
        rintro e w2 ⟨rfl, hb2⟩
        replace gx := Lib.hid (isN_of hb2 gx.out)
        replace gy := Lib.hid (isN_of hb2 gy.out)
        replace hb := Lib.hid (hb.out.trans (hb2.mono hs))
        clear hs hb2
        have hs := hb.out.size
        clear cx0 cx1 cx2
        obtain ⟨cx0, cx1, cx2⟩ := gx.out.all
        dsimp only at cx0 cx1 cx2
        clear cx0 cx1 cx2
        go_wp2_with fail
        go_meet
        exact ⟨rfl, gx.out, gy.out, hb.out⟩
      | true =>
        obtain ⟨cx0, cx1, cx2⟩ := gx.out.all
        dsimp only at cx0 cx1 cx2
        go_wp2_with fail
        refine (cf.on _).mono ?_
        rintro e w2 ⟨rfl, hb2⟩
        replace gx := Lib.hid (isN_of hb2 gx.out)
        replace gy := Lib.hid (isN_of hb2 gy.out)
        replace hb := Lib.hid (hb.out.trans (hb2.mono hs))
        clear hs hb2
        have hs := hb.out.size
        clear cx0 cx1 cx2
        obtain ⟨cx0, cx1, cx2⟩ := gx.out.all
        dsimp only at cx0 cx1 cx2
        obtain rfl := l3.out (by omega) (by simp)
        go_wp2_with fail
        refine (cf3.on _).mono ?_
        rintro e w3 ⟨rfl, hb3⟩
        replace gx := Lib.hid (isN_of hb3 gx.out)
        replace gy := Lib.hid (isN_of hb3 gy.out)
        replace hb := Lib.hid (hb.out.trans (hb3.mono hs))
        clear hs hb3
        have hs := hb.out.size
        clear cx0 cx1 cx2
        go_wp2_with fail
        go_meet
        exact ⟨rfl, gx.out, gy.out, hb.out⟩
    · skip
      go_wp2_with fail
      go_meet
      exact ⟨rfl, gx.out, gy.out, hb.out⟩
    · skip
      go_wp2_with fail
      go_meet
      exact ⟨rfl, gx.out, gy.out, hb.out⟩
  obtain ⟨rfl, gx0, gy0, hb0⟩ := hcut
  clear hs hb gx gy
  have gx := Lib.hid gx0
  have gy := Lib.hid gy0
  have hb := Lib.hid hb0
  clear hb0 gx0 gy0
  have hs := hb.out.size
  replace hsz := hsz.out
  replace hb := Lib.hid (below_drewed hb.out)
  clear hs
  have hs := hb.out.size
  obtain ⟨cx0, cx1, cx2⟩ := gx.out.all
  obtain ⟨cy0, cy1, cy2⟩ := gy.out.all
  dsimp only at cx0 cx1 cx2 cy0 cy1 cy2
  go_wp2_with fail
  refine wp_region_held_at (S := fun w1 => w1.cell? ⟨w.heap.size, 0, none⟩ = some (.bool xn) ∧ w1.cell? ⟨w.heap.size, 1, none⟩ = some (.int .u64 xh) ∧ w1.cell? ⟨w.heap.size, 2, none⟩ = some (.int .u64 xl) ∧ w1.cell? ⟨w.heap.size + 1, 0, none⟩ = some (.bool yn) ∧ w1.cell? ⟨w.heap.size + 1, 1, none⟩ = some (.int .u64 yh) ∧ w1.cell? ⟨w.heap.size + 1, 2, none⟩ = some (.int .u64 yl)) 30 rfl (by kernel_rfl) (by go_keep) (fun hH => ?_)
  refine wpAnyH_take (i := 0) (v := ?_) rfl (by decide +kernel) (by decide +kernel) (by decide +kernel) (fun _ _ _ h => h) (Or.inl ⟨by rfl, ?_⟩) (by assumption) ?_
  rotate_left
  · intro w1 hSw; (try dsimp only at hSw); (try simp only [List.getElem_toArray, List.getElem_cons_zero]); go_simp; try with_reducible rfl
  try simp only [List.getElem_toArray, List.getElem_cons_zero, Act.put, List.setIfInBounds_toArray, List.set_cons_zero, List.set_cons_succ]
  refine wpAnyH_ready (rs := [1]) (by decide +kernel) (by simp) ?_
  refine AllReadyH.cons rfl (fun K hK => ?_) AllReadyH.nil
  (try simp only [List.getElem_toArray, List.getElem_cons_zero, List.getElem_cons_succ])
  go_simp
  refine (cs.on _).mono ?_
  rintro e wr ⟨rfl, hbr⟩
  have hb2 := Lib.hid (hb.out.trans (hbr.mono hs))
  clear hb hs
  have hb := hb2
  clear hb2
  have hs := hb.out.size
  have gg := Lib.hid (isN_of hbr gx.out)
  clear gx
  have gx := gg
  clear gg
  have gg := Lib.hid (isN_of hbr gy.out)
  clear gy
  have gy := gg
  clear gg
  clear hH hbr cx0 cx1 cx2 cy0 cy1 cy2
  obtain ⟨cx0, cx1, cx2⟩ := gx.out.all
  obtain ⟨cy0, cy1, cy2⟩ := gy.out.all
  dsimp only at cx0 cx1 cx2 cy0 cy1 cy2
  go_simp
  refine hK.out _ _ (by go_keep) (fun hH => ?_)
  clear hK K
  try simp only [List.getElem_toArray, List.getElem_cons_zero, List.getElem_cons_succ, Act.put, List.setIfInBounds_toArray, List.set_cons_zero, List.set_cons_succ]
  refine wpAnyH_take (i := 2) (v := ?_) rfl (by decide +kernel) (by decide +kernel) (by decide +kernel) (fun _ _ _ h => h) (Or.inl ⟨by rfl, ?_⟩) (by assumption) ?_
  rotate_left
  · intro w1 hSw; (try dsimp only at hSw); (try simp only [List.getElem_toArray, List.getElem_cons_zero, List.getElem_cons_succ]); go_simp; try with_reducible rfl
  try simp only [List.getElem_toArray, List.getElem_cons_zero, List.getElem_cons_succ, Act.put, List.setIfInBounds_toArray, List.set_cons_zero, List.set_cons_succ]
  refine wpAnyH_take (i := 3) (v := ?_) rfl (by decide +kernel) (by decide +kernel) (by decide +kernel) (fun _ _ _ h => h) (Or.inl ⟨by rfl, ?_⟩) (by assumption) ?_
  rotate_left
  · intro w1 hSw; (try dsimp only at hSw); (try simp only [List.getElem_toArray, List.getElem_cons_zero, List.getElem_cons_succ]); go_simp; try with_reducible rfl
  try simp only [List.getElem_toArray, List.getElem_cons_zero, List.getElem_cons_succ, Act.put, List.setIfInBounds_toArray, List.set_cons_zero, List.set_cons_succ]
  refine wpAnyH_take (i := 4) (v := undef) rfl (by decide +kernel) (by decide +kernel) (by decide +kernel) (fun _ _ _ h => h) (Or.inr ⟨by rfl, rfl⟩) (by assumption) ?_
  try simp only [List.getElem_toArray, List.getElem_cons_zero, List.getElem_cons_succ, Act.put, List.setIfInBounds_toArray, List.set_cons_zero, List.set_cons_succ]
  refine wpAnyH_take (i := 5) (v := undef) rfl (by decide +kernel) (by decide +kernel) (by decide +kernel) (fun _ _ _ h => h) (Or.inr ⟨by rfl, rfl⟩) (by assumption) ?_
  try simp only [List.getElem_toArray, List.getElem_cons_zero, List.getElem_cons_succ, Act.put, List.setIfInBounds_toArray, List.set_cons_zero, List.set_cons_succ]
  refine wpAnyH_take (i := 6) (v := undef) rfl (by decide +kernel) (by decide +kernel) (by decide +kernel) (fun _ _ _ h => h) (Or.inr ⟨by rfl, rfl⟩) (by assumption) ?_
  try simp only [List.getElem_toArray, List.getElem_cons_zero, List.getElem_cons_succ, Act.put, List.setIfInBounds_toArray, List.set_cons_zero, List.set_cons_succ]
  refine wpAnyH_take (i := 7) (v := ?_) rfl (by decide +kernel) (by decide +kernel) (by decide +kernel) (fun _ _ _ h => h) (Or.inl ⟨by rfl, ?_⟩) (by assumption) ?_
  rotate_left
  · intro w1 hSw; (try dsimp only at hSw); (try simp only [List.getElem_toArray, List.getElem_cons_zero, List.getElem_cons_succ]); go_simp; try with_reducible rfl
  try simp only [List.getElem_toArray, List.getElem_cons_zero, List.getElem_cons_succ, Act.put, List.setIfInBounds_toArray, List.set_cons_zero, List.set_cons_succ]
  refine wpAnyH_take (i := 8) (v := ?_) rfl (by decide +kernel) (by decide +kernel) (by decide +kernel) (fun _ _ _ h => h) (Or.inl ⟨by rfl, ?_⟩) (by assumption) ?_
  rotate_left
  · intro w1 hSw; (try dsimp only at hSw); (try simp only [List.getElem_toArray, List.getElem_cons_zero, List.getElem_cons_succ]); go_simp; try with_reducible rfl
  try simp only [List.getElem_toArray, List.getElem_cons_zero, List.getElem_cons_succ, Act.put, List.setIfInBounds_toArray, List.set_cons_zero, List.set_cons_succ]
  refine wpAnyH_take (i := 9) (v := undef) rfl (by decide +kernel) (by decide +kernel) (by decide +kernel) (fun _ _ _ h => h) (Or.inr ⟨by rfl, rfl⟩) (by assumption) ?_
  try simp only [List.getElem_toArray, List.getElem_cons_zero, List.getElem_cons_succ, Act.put, List.setIfInBounds_toArray, List.set_cons_zero, List.set_cons_succ]
  refine wpAnyH_take (i := 10) (v := undef) rfl (by decide +kernel) (by decide +kernel) (by decide +kernel) (fun _ _ _ h => h) (Or.inr ⟨by rfl, rfl⟩) (by assumption) ?_
  try simp only [List.getElem_toArray, List.getElem_cons_zero, List.getElem_cons_succ, Act.put, List.setIfInBounds_toArray, List.set_cons_zero, List.set_cons_succ]
  refine wpAnyH_take (i := 11) (v := undef) rfl (by decide +kernel) (by decide +kernel) (by decide +kernel) (fun _ _ _ h => h) (Or.inr ⟨by rfl, rfl⟩) (by assumption) ?_
  try simp only [List.getElem_toArray, List.getElem_cons_zero, List.getElem_cons_succ, Act.put, List.setIfInBounds_toArray, List.set_cons_zero, List.set_cons_succ]
  refine wpAnyH_take (i := 12) (v := ?_) rfl (by decide +kernel) (by decide +kernel) (by decide +kernel) (fun _ _ _ h => h) (Or.inl ⟨by rfl, ?_⟩) (by assumption) ?_
  rotate_left
  · intro w1 hSw; (try dsimp only at hSw); (try simp only [List.getElem_toArray, List.getElem_cons_zero, List.getElem_cons_succ]); go_simp; try with_reducible rfl
  try simp only [List.getElem_toArray, List.getElem_cons_zero, List.getElem_cons_succ, Act.put, List.setIfInBounds_toArray, List.set_cons_zero, List.set_cons_succ]
  refine wpAnyH_take (i := 13) (v := ?_) rfl (by decide +kernel) (by decide +kernel) (by decide +kernel) (fun _ _ _ h => h) (Or.inl ⟨by rfl, ?_⟩) (by assumption) ?_
  rotate_left
  · intro w1 hSw; (try dsimp only at hSw); (try simp only [List.getElem_toArray, List.getElem_cons_zero, List.getElem_cons_succ]); go_simp; try with_reducible rfl
  try simp only [List.getElem_toArray, List.getElem_cons_zero, List.getElem_cons_succ, Act.put, List.setIfInBounds_toArray, List.set_cons_zero, List.set_cons_succ]
  refine wpAnyH_take (i := 14) (v := undef) rfl (by decide +kernel) (by decide +kernel) (by decide +kernel) (fun _ _ _ h => h) (Or.inr ⟨by rfl, rfl⟩) (by assumption) ?_
  try simp only [List.getElem_toArray, List.getElem_cons_zero, List.getElem_cons_succ, Act.put, List.setIfInBounds_toArray, List.set_cons_zero, List.set_cons_succ]
  refine wpAnyH_take (i := 15) (v := undef) rfl (by decide +kernel) (by decide +kernel) (by decide +kernel) (fun _ _ _ h => h) (Or.inr ⟨by rfl, rfl⟩) (by assumption) ?_
  try simp only [List.getElem_toArray, List.getElem_cons_zero, List.getElem_cons_succ, Act.put, List.setIfInBounds_toArray, List.set_cons_zero, List.set_cons_succ]
  refine wpAnyH_take (i := 16) (v := undef) rfl (by decide +kernel) (by decide +kernel) (by decide +kernel) (fun _ _ _ h => h) (Or.inr ⟨by rfl, rfl⟩) (by assumption) ?_
  try simp only [List.getElem_toArray, List.getElem_cons_zero, List.getElem_cons_succ, Act.put, List.setIfInBounds_toArray, List.set_cons_zero, List.set_cons_succ]
  refine wpAnyH_take (i := 17) (v := undef) rfl (by decide +kernel) (by decide +kernel) (by decide +kernel) (fun _ _ _ h => h) (Or.inr ⟨by rfl, rfl⟩) (by assumption) ?_
  try simp only [List.getElem_toArray, List.getElem_cons_zero, List.getElem_cons_succ, Act.put, List.setIfInBounds_toArray, List.set_cons_zero, List.set_cons_succ]
  refine wpAnyH_take (i := 18) (v := ?_) rfl (by decide +kernel) (by decide +kernel) (by decide +kernel) (fun _ _ _ h => h) (Or.inl ⟨by rfl, ?_⟩) (by assumption) ?_
  rotate_left
  · intro w1 hSw; (try dsimp only at hSw); (try simp only [List.getElem_toArray, List.getElem_cons_zero, List.getElem_cons_succ]); go_simp; try with_reducible rfl
  try simp only [List.getElem_toArray, List.getElem_cons_zero, List.getElem_cons_succ, Act.put, List.setIfInBounds_toArray, List.set_cons_zero, List.set_cons_succ]
  refine wpAnyH_take (i := 19) (v := ?_) rfl (by decide +kernel) (by decide +kernel) (by decide +kernel) (fun _ _ _ h => h) (Or.inl ⟨by rfl, ?_⟩) (by assumption) ?_
  rotate_left
  · intro w1 hSw; (try dsimp only at hSw); (try simp only [List.getElem_toArray, List.getElem_cons_zero, List.getElem_cons_succ]); go_simp; try with_reducible rfl
  try simp only [List.getElem_toArray, List.getElem_cons_zero, List.getElem_cons_succ, Act.put, List.setIfInBounds_toArray, List.set_cons_zero, List.set_cons_succ]
  refine wpAnyH_take (i := 20) (v := undef) rfl (by decide +kernel) (by decide +kernel) (by decide +kernel) (fun _ _ _ h => h) (Or.inr ⟨by rfl, rfl⟩) (by assumption) ?_
  try simp only [List.getElem_toArray, List.getElem_cons_zero, List.getElem_cons_succ, Act.put, List.setIfInBounds_toArray, List.set_cons_zero, List.set_cons_succ]
  refine wpAnyH_take (i := 21) (v := undef) rfl (by decide +kernel) (by decide +kernel) (by decide +kernel) (fun _ _ _ h => h) (Or.inr ⟨by rfl, rfl⟩) (by assumption) ?_
  try simp only [List.getElem_toArray, List.getElem_cons_zero, List.getElem_cons_succ, Act.put, List.setIfInBounds_toArray, List.set_cons_zero, List.set_cons_succ]
  refine wpAnyH_take (i := 22) (v := undef) rfl (by decide +kernel) (by decide +kernel) (by decide +kernel) (fun _ _ _ h => h) (Or.inr ⟨by rfl, rfl⟩) (by assumption) ?_
  try simp only [List.getElem_toArray, List.getElem_cons_zero, List.getElem_cons_succ, Act.put, List.setIfInBounds_toArray, List.set_cons_zero, List.set_cons_succ]
  refine wpAnyH_take (i := 23) (v := undef) rfl (by decide +kernel) (by decide +kernel) (by decide +kernel) (fun _ _ _ h => h) (Or.inr ⟨by rfl, rfl⟩) (by assumption) ?_
  try simp only [List.getElem_toArray, List.getElem_cons_zero, List.getElem_cons_succ, Act.put, List.setIfInBounds_toArray, List.set_cons_zero, List.set_cons_succ]
  refine wpAnyH_take (i := 24) (v := undef) rfl (by decide +kernel) (by decide +kernel) (by decide +kernel) (fun _ _ _ h => h) (Or.inr ⟨by rfl, rfl⟩) (by assumption) ?_
  try simp only [List.getElem_toArray, List.getElem_cons_zero, List.getElem_cons_succ, Act.put, List.setIfInBounds_toArray, List.set_cons_zero, List.set_cons_succ]
  refine wpAnyH_take (i := 25) (v := undef) rfl (by decide +kernel) (by decide +kernel) (by decide +kernel) (fun _ _ _ h => h) (Or.inr ⟨by rfl, rfl⟩) (by assumption) ?_
  try simp only [List.getElem_toArray, List.getElem_cons_zero, List.getElem_cons_succ, Act.put, List.setIfInBounds_toArray, List.set_cons_zero, List.set_cons_succ]
  refine wpAnyH_take (i := 26) (v := undef) rfl (by decide +kernel) (by decide +kernel) (by decide +kernel) (fun _ _ _ h => h) (Or.inr ⟨by rfl, rfl⟩) (by assumption) ?_
  try simp only [List.getElem_toArray, List.getElem_cons_zero, List.getElem_cons_succ, Act.put, List.setIfInBounds_toArray, List.set_cons_zero, List.set_cons_succ]
  refine wpAnyH_take (i := 27) (v := undef) rfl (by decide +kernel) (by decide +kernel) (by decide +kernel) (fun _ _ _ h => h) (Or.inr ⟨by rfl, rfl⟩) (by assumption) ?_
  try simp only [List.getElem_toArray, List.getElem_cons_zero, List.getElem_cons_succ, Act.put, List.setIfInBounds_toArray, List.set_cons_zero, List.set_cons_succ]
  refine wpAnyH_take (i := 28) (v := ?_) rfl (by decide +kernel) (by decide +kernel) (by decide +kernel) (fun _ _ _ h => h) (Or.inl ⟨by rfl, ?_⟩) (by assumption) ?_
  rotate_left
  · intro w1 hSw; (try dsimp only at hSw); (try simp only [List.getElem_toArray, List.getElem_cons_zero, List.getElem_cons_succ]); go_simp; try with_reducible rfl
  try simp only [List.getElem_toArray, List.getElem_cons_zero, List.getElem_cons_succ, Act.put, List.setIfInBounds_toArray, List.set_cons_zero, List.set_cons_succ]
  refine wpAnyH_take (i := 29) (v := ?_) rfl (by decide +kernel) (by decide +kernel) (by decide +kernel) (fun _ _ _ h => h) (Or.inl ⟨by rfl, ?_⟩) (by assumption) ?_
  rotate_left
  · intro w1 hSw; (try dsimp only at hSw); (try simp only [List.getElem_toArray, List.getElem_cons_zero, List.getElem_cons_succ]); go_simp; try with_reducible rfl
  try simp only [List.getElem_toArray, List.getElem_cons_zero, List.getElem_cons_succ, Act.put, List.setIfInBounds_toArray, List.set_cons_zero, List.set_cons_succ]
  refine wpAnyH_done (by decide +kernel) ?_ _
  clear hH
  go_wp2_with fail
  go_ret
  exact ⟨rfl, hb.out⟩

set_option maxRecDepth 100000 in
set_option maxHeartbeats 8000000 in
theorem fieldOrder_1 (k : Int) (x y : WI) (f0 f1 f3 : Bool) (cf : Ret 21 #[.int .i64 k, wv x] (.bool f0)) (cf1 : Ret 21 #[.int .i64 (k + 1), wv x] (.bool f1)) (cf3 : Ret 21 #[.int .i64 (k - 3), wv x] (.bool f3))
    (l1 : (2 ≤ k ∧ k < 5 ∨ 6 ≤ k ∧ k < 9) → f0 = true → f1 = true) (l3 : 6 ≤ k ∧ k < 9 → f0 = true → f3 = true) (sz : Int) (cs : Ret 15 #[.int .i64 k] (.int .i64 sz)) (hsz : (sz == 0) = false) (fx : Ret 29 #[wv x] (.bool false)) (w : World) :
    Calls Try.prog 6 #[.int .i64 k, wv x, wv y] w fun e w' => e = .returned (.bool true) ∧ Below w.heap.size w w' := by
  obtain ⟨xn, xh, xl⟩ := x
  obtain ⟨yn, yh, yl⟩ := y
  unfold wv at *
  dsimp only at *
  go_enter Try.func6, Try.ntmps6
  go_wp2_with fail
  refine (awake_c.on _).mono ?_
  rintro e w1 ⟨rfl, hb1⟩
  obtain ⟨gx, gy, hb⟩ := two_new (x := ⟨xn, xh, xl⟩) (y := ⟨yn, yh, yl⟩) hb1
  have hs := hb.size
  clear hb1
  replace gx := Lib.hid gx
  replace gy := Lib.hid gy
  replace hb := Lib.hid hb
  replace l1 := Lib.hid l1
  replace l3 := Lib.hid l3
  replace hsz := Lib.hid hsz
  go_upto_region 3 with fail
  go_cut [34] (fun v0 wx => v0 = .bool false ∧ IsN wx (w.heap.size) ⟨xn, xh, xl⟩ ∧ IsN wx (w.heap.size + 1) ⟨yn, yh, yl⟩ ∧ Below w.heap.size w wx)
  case first =>
    rcases (show (2 ≤ k ∧ k < 5) ∨ (6 ≤ k ∧ k < 9) ∨ k < 2 ∨ k = 5 ∨ 9 ≤ k by omega) with hk | hk | hk | rfl | hk
    · skip
      cases f0 with
      | false =>
        obtain ⟨cx0, cx1, cx2⟩ := gx.out.all
        dsimp only at cx0 cx1 cx2
        go_wp2_with fail
        refine (cf.on _).mono ?_
        rintro e w2 ⟨rfl, hb2⟩
        replace gx := Lib.hid (isN_of hb2 gx.out)
        replace gy := Lib.hid (isN_of hb2 gy.out)
        replace hb := Lib.hid (hb.out.trans (hb2.mono hs))
        clear hs hb2
        have hs := hb.out.size
        clear cx0 cx1 cx2
        obtain ⟨cx0, cx1, cx2⟩ := gx.out.all
        dsimp only at cx0 cx1 cx2
        clear cx0 cx1 cx2
        go_wp2_with fail
        go_meet
        exact ⟨rfl, gx.out, gy.out, hb.out⟩
      | true =>
        obtain ⟨cx0, cx1, cx2⟩ := gx.out.all
        dsimp only at cx0 cx1 cx2
        go_wp2_with fail
        refine (cf.on _).mono ?_
        rintro e w2 ⟨rfl, hb2⟩
        replace gx := Lib.hid (isN_of hb2 gx.out)
        replace gy := Lib.hid (isN_of hb2 gy.out)
        replace hb := Lib.hid (hb.out.trans (hb2.mono hs))
        clear hs hb2
        have hs := hb.out.size
        clear cx0 cx1 cx2
        obtain ⟨cx0, cx1, cx2⟩ := gx.out.all
        dsimp only at cx0 cx1 cx2
        obtain rfl := l1.out (by omega) (by simp)
        go_wp2_with fail
        refine (cf1.on _).mono ?_
        rintro e w3 ⟨rfl, hb3⟩
        replace gx := Lib.hid (isN_of hb3 gx.out)
        replace gy := Lib.hid (isN_of hb3 gy.out)
        replace hb := Lib.hid (hb.out.trans (hb3.mono hs))
        clear hs hb3
        have hs := hb.out.size
        clear cx0 cx1 cx2
        go_wp2_with fail
        go_meet
        exact ⟨rfl, gx.out, gy.out, hb.out⟩
    · skip
      cases f0 with
      | false =>
        obtain ⟨cx0, cx1, cx2⟩ := gx.out.all
        dsimp only at cx0 cx1 cx2
        go_wp2_with fail
        refine (cf.on _).mono ?_
        rintro e w2 ⟨rfl, hb2⟩
        replace gx := Lib.hid (isN_of hb2 gx.out)
        replace gy := Lib.hid (isN_of hb2 gy.out)
        replace hb := Lib.hid (hb.out.trans (hb2.mono hs))
        clear hs hb2
        have hs := hb.out.size
        clear cx0 cx1 cx2
        obtain ⟨cx0, cx1, cx2⟩ := gx.out.all
        dsimp only at cx0 cx1 cx2
        clear cx0 cx1 cx2
        go_wp2_with fail
        go_meet
        exact ⟨rfl, gx.out, gy.out, hb.out⟩
      | true =>
        obtain ⟨cx0, cx1, cx2⟩ := gx.out.all
        dsimp only at cx0 cx1 cx2
        go_wp2_with fail
        refine (cf.on _).mono ?_
        rintro e w2 ⟨rfl, hb2⟩
        replace gx := Lib.hid (isN_of hb2 gx.out)
        replace gy := Lib.hid (isN_of hb2 gy.out)
        replace hb := Lib.hid (hb.out.trans (hb2.mono hs))
        clear hs hb2
        have hs := hb.out.size
        clear cx0 cx1 cx2
        obtain ⟨cx0, cx1, cx2⟩ := gx.out.all
        dsimp only at cx0 cx1 cx2
        obtain rfl := l1.out (by omega) (by simp)
        go_wp2_with fail
        refine (cf1.on _).mono ?_
        rintro e w3 ⟨rfl, hb3⟩
        replace gx := Lib.hid (isN_of hb3 gx.out)
        replace gy := Lib.hid (isN_of hb3 gy.out)
        replace hb := Lib.hid (hb.out.trans (hb3.mono hs))
        clear hs hb3
        have hs := hb.out.size
        clear cx0 cx1 cx2
        go_wp2_with fail
        go_meet
        exact ⟨rfl, gx.out, gy.out, hb.out⟩
    · skip
      go_wp2_with fail
      go_meet
      exact ⟨rfl, gx.out, gy.out, hb.out⟩
    · skip
      go_wp2_with fail
      go_meet
      exact ⟨rfl, gx.out, gy.out, hb.out⟩
    · skip
      go_wp2_with fail
      go_meet
      exact ⟨rfl, gx.out, gy.out, hb.out⟩
  obtain ⟨rfl, gx0, gy0, hb0⟩ := hcut
  clear hs hb gx gy
  have gx := Lib.hid gx0
  have gy := Lib.hid gy0
  have hb := Lib.hid hb0
  clear hb0 gx0 gy0
  have hs := hb.out.size
  go_upto_region 5 with fail
  go_cut [52] (fun v0 wx => v0 = .bool false ∧ IsN wx (w.heap.size) ⟨xn, xh, xl⟩ ∧ IsN wx (w.heap.size + 1) ⟨yn, yh, yl⟩ ∧ Below w.heap.size w wx)
  case first =>
    rcases (show (6 ≤ k ∧ k < 9) ∨ k < 6 ∨ 9 ≤ k by omega) with hk | hk | hk
    · skip
      cases f0 with
      | false =>
        obtain ⟨cx0, cx1, cx2⟩ := gx.out.all
        dsimp only at cx0 cx1 cx2
        go_wp2_with fail
        refine (cf.on _).mono ?_
        rintro e w2 ⟨rfl, hb2⟩
        replace gx := Lib.hid (isN_of hb2 gx.out)
        replace gy := Lib.hid (isN_of hb2 gy.out)
        replace hb := Lib.hid (hb.out.trans (hb2.mono hs))
        clear hs hb2
        have hs := hb.out.size
        clear cx0 cx1 cx2
        obtain ⟨cx0, cx1, cx2⟩ := gx.out.all
        dsimp only at cx0 cx1 cx2
        clear cx0 cx1 cx2
        go_wp2_with fail
        go_meet
        exact ⟨rfl, gx.out, gy.out, hb.out⟩
      | true =>
        obtain ⟨cx0, cx1, cx2⟩ := gx.out.all
        dsimp only at cx0 cx1 cx2
        go_wp2_with fail
        refine (cf.on _).mono ?_
        rintro e w2 ⟨rfl, hb2⟩
        replace gx := Lib.hid (isN_of hb2 gx.out)
        replace gy := Lib.hid (isN_of hb2 gy.out)
        replace hb := Lib.hid (hb.out.trans (hb2.mono hs))
        clear hs hb2
        have hs := hb.out.size
        clear cx0 cx1 cx2
        obtain ⟨cx0, cx1, cx2⟩ := gx.out.all
        dsimp only at cx0 cx1 cx2
        obtain rfl := l3.out (by omega) (by simp)
        go_wp2_with fail
        refine (cf3.on _).mono ?_
        rintro e w3 ⟨rfl, hb3⟩
        replace gx := Lib.hid (isN_of hb3 gx.out)
        replace gy := Lib.hid (isN_of hb3 gy.out)
        replace hb := Lib.hid (hb.out.trans (hb3.mono hs))
        clear hs hb3
        have hs := hb.out.size
        clear cx0 cx1 cx2
        go_wp2_with fail
        go_meet
        exact ⟨rfl, gx.out, gy.out, hb.out⟩
    · skip
      go_wp2_with fail
      go_meet
      exact ⟨rfl, gx.out, gy.out, hb.out⟩
    · skip
      go_wp2_with fail
      go_meet
      exact ⟨rfl, gx.out, gy.out, hb.out⟩
  obtain ⟨rfl, gx0, gy0, hb0⟩ := hcut
  clear hs hb gx gy
  have gx := Lib.hid gx0
  have gy := Lib.hid gy0
  have hb := Lib.hid hb0
  clear hb0 gx0 gy0
  have hs := hb.out.size
  replace hsz := hsz.out
  replace hb := Lib.hid (below_drewed hb.out)
  clear hs
  have hs := hb.out.size
  obtain ⟨cx0, cx1, cx2⟩ := gx.out.all
  obtain ⟨cy0, cy1, cy2⟩ := gy.out.all
  dsimp only at cx0 cx1 cx2 cy0 cy1 cy2
  go_wp2_with fail
  refine wp_region_held_at (S := fun w1 => w1.cell? ⟨w.heap.size, 0, none⟩ = some (.bool xn) ∧ w1.cell? ⟨w.heap.size, 1, none⟩ = some (.int .u64 xh) ∧ w1.cell? ⟨w.heap.size, 2, none⟩ = some (.int .u64 xl) ∧ w1.cell? ⟨w.heap.size + 1, 0, none⟩ = some (.bool yn) ∧ w1.cell? ⟨w.heap.size + 1, 1, none⟩ = some (.int .u64 yh) ∧ w1.cell? ⟨w.heap.size + 1, 2, none⟩ = some (.int .u64 yl)) 30 rfl (by kernel_rfl) (by go_keep) (fun hH => ?_)
  refine wpAnyH_take (i := 0) (v := ?_) rfl (by decide +kernel) (by decide +kernel) (by decide +kernel) (fun _ _ _ h => h) (Or.inl ⟨by rfl, ?_⟩) (by assumption) ?_
  rotate_left
  · intro w1 hSw; (try dsimp only at hSw); (try simp only [List.getElem_toArray, List.getElem_cons_zero]); go_simp; try with_reducible rfl
  try simp only [List.getElem_toArray, List.getElem_cons_zero, Act.put, List.setIfInBounds_toArray, List.set_cons_zero, List.set_cons_succ]
  refine wpAnyH_ready (rs := [1]) (by decide +kernel) (by simp) ?_
  refine AllReadyH.cons rfl (fun K hK => ?_) AllReadyH.nil
  (try simp only [List.getElem_toArray, List.getElem_cons_zero, List.getElem_cons_succ])
  go_simp
  refine (cs.on _).mono ?_
  rintro e wr ⟨rfl, hbr⟩
  have hb2 := Lib.hid (hb.out.trans (hbr.mono hs))
  clear hb hs
  have hb := hb2
  clear hb2
  have hs := hb.out.size
  have gg := Lib.hid (isN_of hbr gx.out)
  clear gx
  have gx := gg
  clear gg
  have gg := Lib.hid (isN_of hbr gy.out)
  clear gy
  have gy := gg
  clear gg
  clear hH hbr cx0 cx1 cx2 cy0 cy1 cy2
  obtain ⟨cx0, cx1, cx2⟩ := gx.out.all
  obtain ⟨cy0, cy1, cy2⟩ := gy.out.all
  dsimp only at cx0 cx1 cx2 cy0 cy1 cy2
  go_simp
  refine hK.out _ _ (by go_keep) (fun hH => ?_)
  clear hK K
  try simp only [List.getElem_toArray, List.getElem_cons_zero, List.getElem_cons_succ, Act.put, List.setIfInBounds_toArray, List.set_cons_zero, List.set_cons_succ]
  refine wpAnyH_take (i := 2) (v := ?_) rfl (by decide +kernel) (by decide +kernel) (by decide +kernel) (fun _ _ _ h => h) (Or.inl ⟨by rfl, ?_⟩) (by assumption) ?_
  rotate_left
  · intro w1 hSw; (try dsimp only at hSw); (try simp only [List.getElem_toArray, List.getElem_cons_zero, List.getElem_cons_succ]); go_simp; try with_reducible rfl
  try simp only [List.getElem_toArray, List.getElem_cons_zero, List.getElem_cons_succ, Act.put, List.setIfInBounds_toArray, List.set_cons_zero, List.set_cons_succ]
  refine wpAnyH_take (i := 3) (v := ?_) rfl (by decide +kernel) (by decide +kernel) (by decide +kernel) (fun _ _ _ h => h) (Or.inl ⟨by rfl, ?_⟩) (by assumption) ?_
  rotate_left
  · intro w1 hSw; (try dsimp only at hSw); (try simp only [List.getElem_toArray, List.getElem_cons_zero, List.getElem_cons_succ]); go_simp; try with_reducible rfl
  try simp only [List.getElem_toArray, List.getElem_cons_zero, List.getElem_cons_succ, Act.put, List.setIfInBounds_toArray, List.set_cons_zero, List.set_cons_succ]
  refine wpAnyH_take (i := 4) (v := ?_) rfl (by decide +kernel) (by decide +kernel) (by decide +kernel) (fun _ _ _ h => h) (Or.inl ⟨by rfl, ?_⟩) (by assumption) ?_
  rotate_left
  · intro w1 hSw; (try dsimp only at hSw); (try simp only [List.getElem_toArray, List.getElem_cons_zero, List.getElem_cons_succ]); go_simp; try with_reducible rfl
  try simp only [List.getElem_toArray, List.getElem_cons_zero, List.getElem_cons_succ, Act.put, List.setIfInBounds_toArray, List.set_cons_zero, List.set_cons_succ]
  refine wpAnyH_ready (rs := [5]) (by decide +kernel) (by simp) ?_
  refine AllReadyH.cons rfl (fun K hK => ?_) AllReadyH.nil
  (try simp only [List.getElem_toArray, List.getElem_cons_zero, List.getElem_cons_succ])
  go_simp
  refine (fx.on _).mono ?_
  rintro e wr ⟨rfl, hbr⟩
  have hb2 := Lib.hid (hb.out.trans (hbr.mono hs))
  clear hb hs
  have hb := hb2
  clear hb2
  have hs := hb.out.size
  have gg := Lib.hid (isN_of hbr gx.out)
  clear gx
  have gx := gg
  clear gg
  have gg := Lib.hid (isN_of hbr gy.out)
  clear gy
  have gy := gg
  clear gg
  clear hH hbr cx0 cx1 cx2 cy0 cy1 cy2
  obtain ⟨cx0, cx1, cx2⟩ := gx.out.all
  obtain ⟨cy0, cy1, cy2⟩ := gy.out.all
  dsimp only at cx0 cx1 cx2 cy0 cy1 cy2
  go_simp
  refine hK.out _ _ (by go_keep) (fun hH => ?_)
  clear hK K
  try simp only [List.getElem_toArray, List.getElem_cons_zero, List.getElem_cons_succ, Act.put, List.setIfInBounds_toArray, List.set_cons_zero, List.set_cons_succ]
  refine wpAnyH_take (i := 6) (v := ?_) rfl (by decide +kernel) (by decide +kernel) (by decide +kernel) (fun _ _ _ h => h) (Or.inl ⟨by rfl, ?_⟩) (by assumption) ?_
  rotate_left
  · intro w1 hSw; (try dsimp only at hSw); (try simp only [List.getElem_toArray, List.getElem_cons_zero, List.getElem_cons_succ]); go_simp; try with_reducible rfl
  try simp only [List.getElem_toArray, List.getElem_cons_zero, List.getElem_cons_succ, Act.put, List.setIfInBounds_toArray, List.set_cons_zero, List.set_cons_succ]
  refine wpAnyH_take (i := 7) (v := ?_) rfl (by decide +kernel) (by decide +kernel) (by decide +kernel) (fun _ _ _ h => h) (Or.inl ⟨by rfl, ?_⟩) (by assumption) ?_
  rotate_left
  · intro w1 hSw; (try dsimp only at hSw); (try simp only [List.getElem_toArray, List.getElem_cons_zero, List.getElem_cons_succ]); go_simp; try with_reducible rfl
  try simp only [List.getElem_toArray, List.getElem_cons_zero, List.getElem_cons_succ, Act.put, List.setIfInBounds_toArray, List.set_cons_zero, List.set_cons_succ]
  refine wpAnyH_take (i := 8) (v := ?_) rfl (by decide +kernel) (by decide +kernel) (by decide +kernel) (fun _ _ _ h => h) (Or.inl ⟨by rfl, ?_⟩) (by assumption) ?_
  rotate_left
  · intro w1 hSw; (try dsimp only at hSw); (try simp only [List.getElem_toArray, List.getElem_cons_zero, List.getElem_cons_succ]); go_simp; try with_reducible rfl
  try simp only [List.getElem_toArray, List.getElem_cons_zero, List.getElem_cons_succ, Act.put, List.setIfInBounds_toArray, List.set_cons_zero, List.set_cons_succ]
  refine wpAnyH_take (i := 9) (v := undef) rfl (by decide +kernel) (by decide +kernel) (by decide +kernel) (fun _ _ _ h => h) (Or.inr ⟨by rfl, rfl⟩) (by assumption) ?_
  try simp only [List.getElem_toArray, List.getElem_cons_zero, List.getElem_cons_succ, Act.put, List.setIfInBounds_toArray, List.set_cons_zero, List.set_cons_succ]
  refine wpAnyH_take (i := 10) (v := undef) rfl (by decide +kernel) (by decide +kernel) (by decide +kernel) (fun _ _ _ h => h) (Or.inr ⟨by rfl, rfl⟩) (by assumption) ?_
  try simp only [List.getElem_toArray, List.getElem_cons_zero, List.getElem_cons_succ, Act.put, List.setIfInBounds_toArray, List.set_cons_zero, List.set_cons_succ]
  refine wpAnyH_take (i := 11) (v := undef) rfl (by decide +kernel) (by decide +kernel) (by decide +kernel) (fun _ _ _ h => h) (Or.inr ⟨by rfl, rfl⟩) (by assumption) ?_
  try simp only [List.getElem_toArray, List.getElem_cons_zero, List.getElem_cons_succ, Act.put, List.setIfInBounds_toArray, List.set_cons_zero, List.set_cons_succ]
  refine wpAnyH_take (i := 12) (v := ?_) rfl (by decide +kernel) (by decide +kernel) (by decide +kernel) (fun _ _ _ h => h) (Or.inl ⟨by rfl, ?_⟩) (by assumption) ?_
  rotate_left
  · intro w1 hSw; (try dsimp only at hSw); (try simp only [List.getElem_toArray, List.getElem_cons_zero, List.getElem_cons_succ]); go_simp; try with_reducible rfl
  try simp only [List.getElem_toArray, List.getElem_cons_zero, List.getElem_cons_succ, Act.put, List.setIfInBounds_toArray, List.set_cons_zero, List.set_cons_succ]
  refine wpAnyH_take (i := 13) (v := ?_) rfl (by decide +kernel) (by decide +kernel) (by decide +kernel) (fun _ _ _ h => h) (Or.inl ⟨by rfl, ?_⟩) (by assumption) ?_
  rotate_left
  · intro w1 hSw; (try dsimp only at hSw); (try simp only [List.getElem_toArray, List.getElem_cons_zero, List.getElem_cons_succ]); go_simp; try with_reducible rfl
  try simp only [List.getElem_toArray, List.getElem_cons_zero, List.getElem_cons_succ, Act.put, List.setIfInBounds_toArray, List.set_cons_zero, List.set_cons_succ]
  refine wpAnyH_take (i := 14) (v := undef) rfl (by decide +kernel) (by decide +kernel) (by decide +kernel) (fun _ _ _ h => h) (Or.inr ⟨by rfl, rfl⟩) (by assumption) ?_
  try simp only [List.getElem_toArray, List.getElem_cons_zero, List.getElem_cons_succ, Act.put, List.setIfInBounds_toArray, List.set_cons_zero, List.set_cons_succ]
  refine wpAnyH_take (i := 15) (v := undef) rfl (by decide +kernel) (by decide +kernel) (by decide +kernel) (fun _ _ _ h => h) (Or.inr ⟨by rfl, rfl⟩) (by assumption) ?_
  try simp only [List.getElem_toArray, List.getElem_cons_zero, List.getElem_cons_succ, Act.put, List.setIfInBounds_toArray, List.set_cons_zero, List.set_cons_succ]
  refine wpAnyH_take (i := 16) (v := undef) rfl (by decide +kernel) (by decide +kernel) (by decide +kernel) (fun _ _ _ h => h) (Or.inr ⟨by rfl, rfl⟩) (by assumption) ?_
  try simp only [List.getElem_toArray, List.getElem_cons_zero, List.getElem_cons_succ, Act.put, List.setIfInBounds_toArray, List.set_cons_zero, List.set_cons_succ]
  refine wpAnyH_take (i := 17) (v := undef) rfl (by decide +kernel) (by decide +kernel) (by decide +kernel) (fun _ _ _ h => h) (Or.inr ⟨by rfl, rfl⟩) (by assumption) ?_
  try simp only [List.getElem_toArray, List.getElem_cons_zero, List.getElem_cons_succ, Act.put, List.setIfInBounds_toArray, List.set_cons_zero, List.set_cons_succ]
  refine wpAnyH_take (i := 18) (v := ?_) rfl (by decide +kernel) (by decide +kernel) (by decide +kernel) (fun _ _ _ h => h) (Or.inl ⟨by rfl, ?_⟩) (by assumption) ?_
  rotate_left
  · intro w1 hSw; (try dsimp only at hSw); (try simp only [List.getElem_toArray, List.getElem_cons_zero, List.getElem_cons_succ]); go_simp; try with_reducible rfl
  try simp only [List.getElem_toArray, List.getElem_cons_zero, List.getElem_cons_succ, Act.put, List.setIfInBounds_toArray, List.set_cons_zero, List.set_cons_succ]
  refine wpAnyH_take (i := 19) (v := ?_) rfl (by decide +kernel) (by decide +kernel) (by decide +kernel) (fun _ _ _ h => h) (Or.inl ⟨by rfl, ?_⟩) (by assumption) ?_
  rotate_left
  · intro w1 hSw; (try dsimp only at hSw); (try simp only [List.getElem_toArray, List.getElem_cons_zero, List.getElem_cons_succ]); go_simp; try with_reducible rfl
  try simp only [List.getElem_toArray, List.getElem_cons_zero, List.getElem_cons_succ, Act.put, List.setIfInBounds_toArray, List.set_cons_zero, List.set_cons_succ]
  refine wpAnyH_take (i := 20) (v := undef) rfl (by decide +kernel) (by decide +kernel) (by decide +kernel) (fun _ _ _ h => h) (Or.inr ⟨by rfl, rfl⟩) (by assumption) ?_
  try simp only [List.getElem_toArray, List.getElem_cons_zero, List.getElem_cons_succ, Act.put, List.setIfInBounds_toArray, List.set_cons_zero, List.set_cons_succ]
  refine wpAnyH_take (i := 21) (v := undef) rfl (by decide +kernel) (by decide +kernel) (by decide +kernel) (fun _ _ _ h => h) (Or.inr ⟨by rfl, rfl⟩) (by assumption) ?_
  try simp only [List.getElem_toArray, List.getElem_cons_zero, List.getElem_cons_succ, Act.put, List.setIfInBounds_toArray, List.set_cons_zero, List.set_cons_succ]
  refine wpAnyH_take (i := 22) (v := undef) rfl (by decide +kernel) (by decide +kernel) (by decide +kernel) (fun _ _ _ h => h) (Or.inr ⟨by rfl, rfl⟩) (by assumption) ?_
  try simp only [List.getElem_toArray, List.getElem_cons_zero, List.getElem_cons_succ, Act.put, List.setIfInBounds_toArray, List.set_cons_zero, List.set_cons_succ]
  refine wpAnyH_take (i := 23) (v := undef) rfl (by decide +kernel) (by decide +kernel) (by decide +kernel) (fun _ _ _ h => h) (Or.inr ⟨by rfl, rfl⟩) (by assumption) ?_
  try simp only [List.getElem_toArray, List.getElem_cons_zero, List.getElem_cons_succ, Act.put, List.setIfInBounds_toArray, List.set_cons_zero, List.set_cons_succ]
  refine wpAnyH_take (i := 24) (v := undef) rfl (by decide +kernel) (by decide +kernel) (by decide +kernel) (fun _ _ _ h => h) (Or.inr ⟨by rfl, rfl⟩) (by assumption) ?_
  try simp only [List.getElem_toArray, List.getElem_cons_zero, List.getElem_cons_succ, Act.put, List.setIfInBounds_toArray, List.set_cons_zero, List.set_cons_succ]
  refine wpAnyH_take (i := 25) (v := undef) rfl (by decide +kernel) (by decide +kernel) (by decide +kernel) (fun _ _ _ h => h) (Or.inr ⟨by rfl, rfl⟩) (by assumption) ?_
  try simp only [List.getElem_toArray, List.getElem_cons_zero, List.getElem_cons_succ, Act.put, List.setIfInBounds_toArray, List.set_cons_zero, List.set_cons_succ]
  refine wpAnyH_take (i := 26) (v := undef) rfl (by decide +kernel) (by decide +kernel) (by decide +kernel) (fun _ _ _ h => h) (Or.inr ⟨by rfl, rfl⟩) (by assumption) ?_
  try simp only [List.getElem_toArray, List.getElem_cons_zero, List.getElem_cons_succ, Act.put, List.setIfInBounds_toArray, List.set_cons_zero, List.set_cons_succ]
  refine wpAnyH_take (i := 27) (v := undef) rfl (by decide +kernel) (by decide +kernel) (by decide +kernel) (fun _ _ _ h => h) (Or.inr ⟨by rfl, rfl⟩) (by assumption) ?_
  try simp only [List.getElem_toArray, List.getElem_cons_zero, List.getElem_cons_succ, Act.put, List.setIfInBounds_toArray, List.set_cons_zero, List.set_cons_succ]
  refine wpAnyH_take (i := 28) (v := ?_) rfl (by decide +kernel) (by decide +kernel) (by decide +kernel) (fun _ _ _ h => h) (Or.inl ⟨by rfl, ?_⟩) (by assumption) ?_
  rotate_left
  · intro w1 hSw; (try dsimp only at hSw); (try simp only [List.getElem_toArray, List.getElem_cons_zero, List.getElem_cons_succ]); go_simp; try with_reducible rfl
  try simp only [List.getElem_toArray, List.getElem_cons_zero, List.getElem_cons_succ, Act.put, List.setIfInBounds_toArray, List.set_cons_zero, List.set_cons_succ]
  refine wpAnyH_take (i := 29) (v := ?_) rfl (by decide +kernel) (by decide +kernel) (by decide +kernel) (fun _ _ _ h => h) (Or.inl ⟨by rfl, ?_⟩) (by assumption) ?_
  rotate_left
  · intro w1 hSw; (try dsimp only at hSw); (try simp only [List.getElem_toArray, List.getElem_cons_zero, List.getElem_cons_succ]); go_simp; try with_reducible rfl
  try simp only [List.getElem_toArray, List.getElem_cons_zero, List.getElem_cons_succ, Act.put, List.setIfInBounds_toArray, List.set_cons_zero, List.set_cons_succ]
  refine wpAnyH_done (by decide +kernel) ?_ _
  clear hH
  go_wp2_with fail
  go_ret
  exact ⟨rfl, hb.out⟩

set_option maxRecDepth 100000 in
set_option maxHeartbeats 8000000 in
theorem fieldOrder_2 (k : Int) (x y : WI) (f0 f1 f3 : Bool) (cf : Ret 21 #[.int .i64 k, wv x] (.bool f0)) (cf1 : Ret 21 #[.int .i64 (k + 1), wv x] (.bool f1)) (cf3 : Ret 21 #[.int .i64 (k - 3), wv x] (.bool f3))
    (l1 : (2 ≤ k ∧ k < 5 ∨ 6 ≤ k ∧ k < 9) → f0 = true → f1 = true) (l3 : 6 ≤ k ∧ k < 9 → f0 = true → f3 = true) (sz : Int) (cs : Ret 15 #[.int .i64 k] (.int .i64 sz)) (hsz : (sz == 0) = false) (fx : Ret 29 #[wv x] (.bool true)) (fy : Ret 29 #[wv y] (.bool false)) (w : World) :
    Calls Try.prog 6 #[.int .i64 k, wv x, wv y] w fun e w' => e = .returned (.bool true) ∧ Below w.heap.size w w' := by
  obtain ⟨xn, xh, xl⟩ := x
  obtain ⟨yn, yh, yl⟩ := y
  unfold wv at *
  dsimp only at *
  go_enter Try.func6, Try.ntmps6
  go_wp2_with fail
  refine (awake_c.on _).mono ?_
  rintro e w1 ⟨rfl, hb1⟩
  obtain ⟨gx, gy, hb⟩ := two_new (x := ⟨xn, xh, xl⟩) (y := ⟨yn, yh, yl⟩) hb1
  have hs := hb.size
  clear hb1
  replace gx := Lib.hid gx
  replace gy := Lib.hid gy
  replace hb := Lib.hid hb
  replace l1 := Lib.hid l1
  replace l3 := Lib.hid l3
  replace hsz := Lib.hid hsz
  go_upto_region 3 with fail
  go_cut [34] (fun v0 wx => v0 = .bool false ∧ IsN wx (w.heap.size) ⟨xn, xh, xl⟩ ∧ IsN wx (w.heap.size + 1) ⟨yn, yh, yl⟩ ∧ Below w.heap.size w wx)
  case first =>
    rcases (show (2 ≤ k ∧ k < 5) ∨ (6 ≤ k ∧ k < 9) ∨ k < 2 ∨ k = 5 ∨ 9 ≤ k by omega) with hk | hk | hk | rfl | hk
    · skip
      cases f0 with
      | false =>
        obtain ⟨cx0, cx1, cx2⟩ := gx.out.all
        dsimp only at cx0 cx1 cx2
        go_wp2_with fail
        refine (cf.on _).mono ?_
        rintro e w2 ⟨rfl, hb2⟩
        replace gx := Lib.hid (isN_of hb2 gx.out)
        replace gy := Lib.hid (isN_of hb2 gy.out)
        replace hb := Lib.hid (hb.out.trans (hb2.mono hs))
        clear hs hb2
        have hs := hb.out.size
        clear cx0 cx1 cx2
        obtain ⟨cx0, cx1, cx2⟩ := gx.out.all
        dsimp only at cx0 cx1 cx2
        clear cx0 cx1 cx2
        go_wp2_with fail
        go_meet
        exact ⟨rfl, gx.out, gy.out, hb.out⟩
      | true =>
        obtain ⟨cx0, cx1, cx2⟩ := gx.out.all
        dsimp only at cx0 cx1 cx2
        go_wp2_with fail
        refine (cf.on _).mono ?_
        rintro e w2 ⟨rfl, hb2⟩
        replace gx := Lib.hid (isN_of hb2 gx.out)
        replace gy := Lib.hid (isN_of hb2 gy.out)
        replace hb := Lib.hid (hb.out.trans (hb2.mono hs))
        clear hs hb2
        have hs := hb.out.size
        clear cx0 cx1 cx2
        obtain ⟨cx0, cx1, cx2⟩ := gx.out.all
        dsimp only at cx0 cx1 cx2
        obtain rfl := l1.out (by omega) (by simp)
        go_wp2_with fail
        refine (cf1.on _).mono ?_
        rintro e w3 ⟨rfl, hb3⟩
        replace gx := Lib.hid (isN_of hb3 gx.out)
        replace gy := Lib.hid (isN_of hb3 gy.out)
        replace hb := Lib.hid (hb.out.trans (hb3.mono hs))
        clear hs hb3
        have hs := hb.out.size
        clear cx0 cx1 cx2
        go_wp2_with fail
        go_meet
        exact ⟨rfl, gx.out, gy.out, hb.out⟩
    · skip
      cases f0 with
      | false =>
        obtain ⟨cx0, cx1, cx2⟩ := gx.out.all
        dsimp only at cx0 cx1 cx2
        go_wp2_with fail
        refine (cf.on _).mono ?_
        rintro e w2 ⟨rfl, hb2⟩
        replace gx := Lib.hid (isN_of hb2 gx.out)
        replace gy := Lib.hid (isN_of hb2 gy.out)
        replace hb := Lib.hid (hb.out.trans (hb2.mono hs))
        clear hs hb2
        have hs := hb.out.size
        clear cx0 cx1 cx2
        obtain ⟨cx0, cx1, cx2⟩ := gx.out.all
        dsimp only at cx0 cx1 cx2
        clear cx0 cx1 cx2
        go_wp2_with fail
        go_meet
        exact ⟨rfl, gx.out, gy.out, hb.out⟩
      | true =>
        obtain ⟨cx0, cx1, cx2⟩ := gx.out.all
        dsimp only at cx0 cx1 cx2
        go_wp2_with fail
        refine (cf.on _).mono ?_
        rintro e w2 ⟨rfl, hb2⟩
        replace gx := Lib.hid (isN_of hb2 gx.out)
        replace gy := Lib.hid (isN_of hb2 gy.out)
        replace hb := Lib.hid (hb.out.trans (hb2.mono hs))
        clear hs hb2
        have hs := hb.out.size
        clear cx0 cx1 cx2
        obtain ⟨cx0, cx1, cx2⟩ := gx.out.all
        dsimp only at cx0 cx1 cx2
        obtain rfl := l1.out (by omega) (by simp)
        go_wp2_with fail
        refine (cf1.on _).mono ?_
        rintro e w3 ⟨rfl, hb3⟩
        replace gx := Lib.hid (isN_of hb3 gx.out)
        replace gy := Lib.hid (isN_of hb3 gy.out)
        replace hb := Lib.hid (hb.out.trans (hb3.mono hs))
        clear hs hb3
        have hs := hb.out.size
        clear cx0 cx1 cx2
        go_wp2_with fail
        go_meet
        exact ⟨rfl, gx.out, gy.out, hb.out⟩
    · skip
      go_wp2_with fail
      go_meet
      exact ⟨rfl, gx.out, gy.out, hb.out⟩
    · skip
      go_wp2_with fail
      go_meet
      exact ⟨rfl, gx.out, gy.out, hb.out⟩
    · skip
      go_wp2_with fail
      go_meet
      exact ⟨rfl, gx.out, gy.out, hb.out⟩
  obtain ⟨rfl, gx0, gy0, hb0⟩ := hcut
  clear hs hb gx gy
  have gx := Lib.hid gx0
  have gy := Lib.hid gy0
  have hb := Lib.hid hb0
  clear hb0 gx0 gy0
  have hs := hb.out.size
  go_upto_region 5 with fail
  go_cut [52] (fun v0 wx => v0 = .bool false ∧ IsN wx (w.heap.size) ⟨xn, xh, xl⟩ ∧ IsN wx (w.heap.size + 1) ⟨yn, yh, yl⟩ ∧ Below w.heap.size w wx)
  case first =>
    rcases (show (6 ≤ k ∧ k < 9) ∨ k < 6 ∨ 9 ≤ k by omega) with hk | hk | hk
    · skip
      cases f0 with
      | false =>
        obtain ⟨cx0, cx1, cx2⟩ := gx.out.all
        dsimp only at cx0 cx1 cx2
        go_wp2_with fail
        refine (cf.on _).mono ?_
        rintro e w2 ⟨rfl, hb2⟩
        replace gx := Lib.hid (isN_of hb2 gx.out)
        replace gy := Lib.hid (isN_of hb2 gy.out)
        replace hb := Lib.hid (hb.out.trans (hb2.mono hs))
        clear hs hb2
        have hs := hb.out.size
        clear cx0 cx1 cx2
        obtain ⟨cx0, cx1, cx2⟩ := gx.out.all
        dsimp only at cx0 cx1 cx2
        clear cx0 cx1 cx2
        go_wp2_with fail
        go_meet
        exact ⟨rfl, gx.out, gy.out, hb.out⟩
      | true =>
        obtain ⟨cx0, cx1, cx2⟩ := gx.out.all
        dsimp only at cx0 cx1 cx2
        go_wp2_with fail
        refine (cf.on _).mono ?_
        rintro e w2 ⟨rfl, hb2⟩
        replace gx := Lib.hid (isN_of hb2 gx.out)
        replace gy := Lib.hid (isN_of hb2 gy.out)
        replace hb := Lib.hid (hb.out.trans (hb2.mono hs))
        clear hs hb2
        have hs := hb.out.size
        clear cx0 cx1 cx2
        obtain ⟨cx0, cx1, cx2⟩ := gx.out.all
        dsimp only at cx0 cx1 cx2
        obtain rfl := l3.out (by omega) (by simp)
        go_wp2_with fail
        refine (cf3.on _).mono ?_
        rintro e w3 ⟨rfl, hb3⟩
        replace gx := Lib.hid (isN_of hb3 gx.out)
        replace gy := Lib.hid (isN_of hb3 gy.out)
        replace hb := Lib.hid (hb.out.trans (hb3.mono hs))
        clear hs hb3
        have hs := hb.out.size
        clear cx0 cx1 cx2
        go_wp2_with fail
        go_meet
        exact ⟨rfl, gx.out, gy.out, hb.out⟩
    · skip
      go_wp2_with fail
      go_meet
      exact ⟨rfl, gx.out, gy.out, hb.out⟩
    · skip
      go_wp2_with fail
      go_meet
      exact ⟨rfl, gx.out, gy.out, hb.out⟩
  obtain ⟨rfl, gx0, gy0, hb0⟩ := hcut
  clear hs hb gx gy
  have gx := Lib.hid gx0
  have gy := Lib.hid gy0
  have hb := Lib.hid hb0
  clear hb0 gx0 gy0
  have hs := hb.out.size
  replace hsz := hsz.out
  replace hb := Lib.hid (below_drewed hb.out)
  clear hs
  have hs := hb.out.size
  obtain ⟨cx0, cx1, cx2⟩ := gx.out.all
  obtain ⟨cy0, cy1, cy2⟩ := gy.out.all
  dsimp only at cx0 cx1 cx2 cy0 cy1 cy2
  go_wp2_with fail
  refine wp_region_held_at (S := fun w1 => w1.cell? ⟨w.heap.size, 0, none⟩ = some (.bool xn) ∧ w1.cell? ⟨w.heap.size, 1, none⟩ = some (.int .u64 xh) ∧ w1.cell? ⟨w.heap.size, 2, none⟩ = some (.int .u64 xl) ∧ w1.cell? ⟨w.heap.size + 1, 0, none⟩ = some (.bool yn) ∧ w1.cell? ⟨w.heap.size + 1, 1, none⟩ = some (.int .u64 yh) ∧ w1.cell? ⟨w.heap.size + 1, 2, none⟩ = some (.int .u64 yl)) 30 rfl (by kernel_rfl) (by go_keep) (fun hH => ?_)
  refine wpAnyH_take (i := 0) (v := ?_) rfl (by decide +kernel) (by decide +kernel) (by decide +kernel) (fun _ _ _ h => h) (Or.inl ⟨by rfl, ?_⟩) (by assumption) ?_
  rotate_left
  · intro w1 hSw; (try dsimp only at hSw); (try simp only [List.getElem_toArray, List.getElem_cons_zero]); go_simp; try with_reducible rfl
  try simp only [List.getElem_toArray, List.getElem_cons_zero, Act.put, List.setIfInBounds_toArray, List.set_cons_zero, List.set_cons_succ]
  refine wpAnyH_ready (rs := [1]) (by decide +kernel) (by simp) ?_
  refine AllReadyH.cons rfl (fun K hK => ?_) AllReadyH.nil
  (try simp only [List.getElem_toArray, List.getElem_cons_zero, List.getElem_cons_succ])
  go_simp
  refine (cs.on _).mono ?_
  rintro e wr ⟨rfl, hbr⟩
  have hb2 := Lib.hid (hb.out.trans (hbr.mono hs))
  clear hb hs
  have hb := hb2
  clear hb2
  have hs := hb.out.size
  have gg := Lib.hid (isN_of hbr gx.out)
  clear gx
  have gx := gg
  clear gg
  have gg := Lib.hid (isN_of hbr gy.out)
  clear gy
  have gy := gg
  clear gg
  clear hH hbr cx0 cx1 cx2 cy0 cy1 cy2
  obtain ⟨cx0, cx1, cx2⟩ := gx.out.all
  obtain ⟨cy0, cy1, cy2⟩ := gy.out.all
  dsimp only at cx0 cx1 cx2 cy0 cy1 cy2
  go_simp
  refine hK.out _ _ (by go_keep) (fun hH => ?_)
  clear hK K
  try simp only [List.getElem_toArray, List.getElem_cons_zero, List.getElem_cons_succ, Act.put, List.setIfInBounds_toArray, List.set_cons_zero, List.set_cons_succ]
  refine wpAnyH_take (i := 2) (v := ?_) rfl (by decide +kernel) (by decide +kernel) (by decide +kernel) (fun _ _ _ h => h) (Or.inl ⟨by rfl, ?_⟩) (by assumption) ?_
  rotate_left
  · intro w1 hSw; (try dsimp only at hSw); (try simp only [List.getElem_toArray, List.getElem_cons_zero, List.getElem_cons_succ]); go_simp; try with_reducible rfl
  try simp only [List.getElem_toArray, List.getElem_cons_zero, List.getElem_cons_succ, Act.put, List.setIfInBounds_toArray, List.set_cons_zero, List.set_cons_succ]
  refine wpAnyH_take (i := 3) (v := ?_) rfl (by decide +kernel) (by decide +kernel) (by decide +kernel) (fun _ _ _ h => h) (Or.inl ⟨by rfl, ?_⟩) (by assumption) ?_
  rotate_left
  · intro w1 hSw; (try dsimp only at hSw); (try simp only [List.getElem_toArray, List.getElem_cons_zero, List.getElem_cons_succ]); go_simp; try with_reducible rfl
  try simp only [List.getElem_toArray, List.getElem_cons_zero, List.getElem_cons_succ, Act.put, List.setIfInBounds_toArray, List.set_cons_zero, List.set_cons_succ]
  refine wpAnyH_take (i := 4) (v := ?_) rfl (by decide +kernel) (by decide +kernel) (by decide +kernel) (fun _ _ _ h => h) (Or.inl ⟨by rfl, ?_⟩) (by assumption) ?_
  rotate_left
  · intro w1 hSw; (try dsimp only at hSw); (try simp only [List.getElem_toArray, List.getElem_cons_zero, List.getElem_cons_succ]); go_simp; try with_reducible rfl
  try simp only [List.getElem_toArray, List.getElem_cons_zero, List.getElem_cons_succ, Act.put, List.setIfInBounds_toArray, List.set_cons_zero, List.set_cons_succ]
  refine wpAnyH_ready (rs := [5]) (by decide +kernel) (by simp) ?_
  refine AllReadyH.cons rfl (fun K hK => ?_) AllReadyH.nil
  (try simp only [List.getElem_toArray, List.getElem_cons_zero, List.getElem_cons_succ])
  go_simp
  refine (fx.on _).mono ?_
  rintro e wr ⟨rfl, hbr⟩
  have hb2 := Lib.hid (hb.out.trans (hbr.mono hs))
  clear hb hs
  have hb := hb2
  clear hb2
  have hs := hb.out.size
  have gg := Lib.hid (isN_of hbr gx.out)
  clear gx
  have gx := gg
  clear gg
  have gg := Lib.hid (isN_of hbr gy.out)
  clear gy
  have gy := gg
  clear gg
  clear hH hbr cx0 cx1 cx2 cy0 cy1 cy2
  obtain ⟨cx0, cx1, cx2⟩ := gx.out.all
  obtain ⟨cy0, cy1, cy2⟩ := gy.out.all
  dsimp only at cx0 cx1 cx2 cy0 cy1 cy2
  go_simp
  refine hK.out _ _ (by go_keep) (fun hH => ?_)
  clear hK K
  try simp only [List.getElem_toArray, List.getElem_cons_zero, List.getElem_cons_succ, Act.put, List.setIfInBounds_toArray, List.set_cons_zero, List.set_cons_succ]
  refine wpAnyH_take (i := 6) (v := ?_) rfl (by decide +kernel) (by decide +kernel) (by decide +kernel) (fun _ _ _ h => h) (Or.inl ⟨by rfl, ?_⟩) (by assumption) ?_
  rotate_left
  · intro w1 hSw; (try dsimp only at hSw); (try simp only [List.getElem_toArray, List.getElem_cons_zero, List.getElem_cons_succ]); go_simp; try with_reducible rfl
  try simp only [List.getElem_toArray, List.getElem_cons_zero, List.getElem_cons_succ, Act.put, List.setIfInBounds_toArray, List.set_cons_zero, List.set_cons_succ]
  refine wpAnyH_take (i := 7) (v := ?_) rfl (by decide +kernel) (by decide +kernel) (by decide +kernel) (fun _ _ _ h => h) (Or.inl ⟨by rfl, ?_⟩) (by assumption) ?_
  rotate_left
  · intro w1 hSw; (try dsimp only at hSw); (try simp only [List.getElem_toArray, List.getElem_cons_zero, List.getElem_cons_succ]); go_simp; try with_reducible rfl
  try simp only [List.getElem_toArray, List.getElem_cons_zero, List.getElem_cons_succ, Act.put, List.setIfInBounds_toArray, List.set_cons_zero, List.set_cons_succ]
  refine wpAnyH_take (i := 8) (v := ?_) rfl (by decide +kernel) (by decide +kernel) (by decide +kernel) (fun _ _ _ h => h) (Or.inl ⟨by rfl, ?_⟩) (by assumption) ?_
  rotate_left
  · intro w1 hSw; (try dsimp only at hSw); (try simp only [List.getElem_toArray, List.getElem_cons_zero, List.getElem_cons_succ]); go_simp; try with_reducible rfl
  try simp only [List.getElem_toArray, List.getElem_cons_zero, List.getElem_cons_succ, Act.put, List.setIfInBounds_toArray, List.set_cons_zero, List.set_cons_succ]
  refine wpAnyH_take (i := 9) (v := ?_) rfl (by decide +kernel) (by decide +kernel) (by decide +kernel) (fun _ _ _ h => h) (Or.inl ⟨by rfl, ?_⟩) (by assumption) ?_
  rotate_left
  · intro w1 hSw; (try dsimp only at hSw); (try simp only [List.getElem_toArray, List.getElem_cons_zero, List.getElem_cons_succ]); go_simp; try with_reducible rfl
  try simp only [List.getElem_toArray, List.getElem_cons_zero, List.getElem_cons_succ, Act.put, List.setIfInBounds_toArray, List.set_cons_zero, List.set_cons_succ]
  refine wpAnyH_ready (rs := [10]) (by decide +kernel) (by simp) ?_
  refine AllReadyH.cons rfl (fun K hK => ?_) AllReadyH.nil
  (try simp only [List.getElem_toArray, List.getElem_cons_zero, List.getElem_cons_succ])
  go_simp
  refine (fy.on _).mono ?_
  rintro e wr ⟨rfl, hbr⟩
  have hb2 := Lib.hid (hb.out.trans (hbr.mono hs))
  clear hb hs
  have hb := hb2
  clear hb2
  have hs := hb.out.size
  have gg := Lib.hid (isN_of hbr gx.out)
  clear gx
  have gx := gg
  clear gg
  have gg := Lib.hid (isN_of hbr gy.out)
  clear gy
  have gy := gg
  clear gg
  clear hH hbr cx0 cx1 cx2 cy0 cy1 cy2
  obtain ⟨cx0, cx1, cx2⟩ := gx.out.all
  obtain ⟨cy0, cy1, cy2⟩ := gy.out.all
  dsimp only at cx0 cx1 cx2 cy0 cy1 cy2
  go_simp
  refine hK.out _ _ (by go_keep) (fun hH => ?_)
  clear hK K
  try simp only [List.getElem_toArray, List.getElem_cons_zero, List.getElem_cons_succ, Act.put, List.setIfInBounds_toArray, List.set_cons_zero, List.set_cons_succ]
  refine wpAnyH_take (i := 11) (v := ?_) rfl (by decide +kernel) (by decide +kernel) (by decide +kernel) (fun _ _ _ h => h) (Or.inl ⟨by rfl, ?_⟩) (by assumption) ?_
  rotate_left
  · intro w1 hSw; (try dsimp only at hSw); (try simp only [List.getElem_toArray, List.getElem_cons_zero, List.getElem_cons_succ]); go_simp; try with_reducible rfl
  try simp only [List.getElem_toArray, List.getElem_cons_zero, List.getElem_cons_succ, Act.put, List.setIfInBounds_toArray, List.set_cons_zero, List.set_cons_succ]
  refine wpAnyH_take (i := 12) (v := ?_) rfl (by decide +kernel) (by decide +kernel) (by decide +kernel) (fun _ _ _ h => h) (Or.inl ⟨by rfl, ?_⟩) (by assumption) ?_
  rotate_left
  · intro w1 hSw; (try dsimp only at hSw); (try simp only [List.getElem_toArray, List.getElem_cons_zero, List.getElem_cons_succ]); go_simp; try with_reducible rfl
  try simp only [List.getElem_toArray, List.getElem_cons_zero, List.getElem_cons_succ, Act.put, List.setIfInBounds_toArray, List.set_cons_zero, List.set_cons_succ]
  refine wpAnyH_take (i := 13) (v := ?_) rfl (by decide +kernel) (by decide +kernel) (by decide +kernel) (fun _ _ _ h => h) (Or.inl ⟨by rfl, ?_⟩) (by assumption) ?_
  rotate_left
  · intro w1 hSw; (try dsimp only at hSw); (try simp only [List.getElem_toArray, List.getElem_cons_zero, List.getElem_cons_succ]); go_simp; try with_reducible rfl
  try simp only [List.getElem_toArray, List.getElem_cons_zero, List.getElem_cons_succ, Act.put, List.setIfInBounds_toArray, List.set_cons_zero, List.set_cons_succ]
  refine wpAnyH_take (i := 14) (v := undef) rfl (by decide +kernel) (by decide +kernel) (by decide +kernel) (fun _ _ _ h => h) (Or.inr ⟨by rfl, rfl⟩) (by assumption) ?_
  try simp only [List.getElem_toArray, List.getElem_cons_zero, List.getElem_cons_succ, Act.put, List.setIfInBounds_toArray, List.set_cons_zero, List.set_cons_succ]
  refine wpAnyH_take (i := 15) (v := undef) rfl (by decide +kernel) (by decide +kernel) (by decide +kernel) (fun _ _ _ h => h) (Or.inr ⟨by rfl, rfl⟩) (by assumption) ?_
  try simp only [List.getElem_toArray, List.getElem_cons_zero, List.getElem_cons_succ, Act.put, List.setIfInBounds_toArray, List.set_cons_zero, List.set_cons_succ]
  refine wpAnyH_take (i := 16) (v := undef) rfl (by decide +kernel) (by decide +kernel) (by decide +kernel) (fun _ _ _ h => h) (Or.inr ⟨by rfl, rfl⟩) (by assumption) ?_
  try simp only [List.getElem_toArray, List.getElem_cons_zero, List.getElem_cons_succ, Act.put, List.setIfInBounds_toArray, List.set_cons_zero, List.set_cons_succ]
  refine wpAnyH_take (i := 17) (v := undef) rfl (by decide +kernel) (by decide +kernel) (by decide +kernel) (fun _ _ _ h => h) (Or.inr ⟨by rfl, rfl⟩) (by assumption) ?_
  try simp only [List.getElem_toArray, List.getElem_cons_zero, List.getElem_cons_succ, Act.put, List.setIfInBounds_toArray, List.set_cons_zero, List.set_cons_succ]
  refine wpAnyH_take (i := 18) (v := ?_) rfl (by decide +kernel) (by decide +kernel) (by decide +kernel) (fun _ _ _ h => h) (Or.inl ⟨by rfl, ?_⟩) (by assumption) ?_
  rotate_left
  · intro w1 hSw; (try dsimp only at hSw); (try simp only [List.getElem_toArray, List.getElem_cons_zero, List.getElem_cons_succ]); go_simp; try with_reducible rfl
  try simp only [List.getElem_toArray, List.getElem_cons_zero, List.getElem_cons_succ, Act.put, List.setIfInBounds_toArray, List.set_cons_zero, List.set_cons_succ]
  refine wpAnyH_take (i := 19) (v := ?_) rfl (by decide +kernel) (by decide +kernel) (by decide +kernel) (fun _ _ _ h => h) (Or.inl ⟨by rfl, ?_⟩) (by assumption) ?_
  rotate_left
  · intro w1 hSw; (try dsimp only at hSw); (try simp only [List.getElem_toArray, List.getElem_cons_zero, List.getElem_cons_succ]); go_simp; try with_reducible rfl
  try simp only [List.getElem_toArray, List.getElem_cons_zero, List.getElem_cons_succ, Act.put, List.setIfInBounds_toArray, List.set_cons_zero, List.set_cons_succ]
  refine wpAnyH_take (i := 20) (v := undef) rfl (by decide +kernel) (by decide +kernel) (by decide +kernel) (fun _ _ _ h => h) (Or.inr ⟨by rfl, rfl⟩) (by assumption) ?_
  try simp only [List.getElem_toArray, List.getElem_cons_zero, List.getElem_cons_succ, Act.put, List.setIfInBounds_toArray, List.set_cons_zero, List.set_cons_succ]
  refine wpAnyH_take (i := 21) (v := undef) rfl (by decide +kernel) (by decide +kernel) (by decide +kernel) (fun _ _ _ h => h) (Or.inr ⟨by rfl, rfl⟩) (by assumption) ?_
  try simp only [List.getElem_toArray, List.getElem_cons_zero, List.getElem_cons_succ, Act.put, List.setIfInBounds_toArray, List.set_cons_zero, List.set_cons_succ]
  refine wpAnyH_take (i := 22) (v := undef) rfl (by decide +kernel) (by decide +kernel) (by decide +kernel) (fun _ _ _ h => h) (Or.inr ⟨by rfl, rfl⟩) (by assumption) ?_
  try simp only [List.getElem_toArray, List.getElem_cons_zero, List.getElem_cons_succ, Act.put, List.setIfInBounds_toArray, List.set_cons_zero, List.set_cons_succ]
  refine wpAnyH_take (i := 23) (v := undef) rfl (by decide +kernel) (by decide +kernel) (by decide +kernel) (fun _ _ _ h => h) (Or.inr ⟨by rfl, rfl⟩) (by assumption) ?_
  try simp only [List.getElem_toArray, List.getElem_cons_zero, List.getElem_cons_succ, Act.put, List.setIfInBounds_toArray, List.set_cons_zero, List.set_cons_succ]
  refine wpAnyH_take (i := 24) (v := undef) rfl (by decide +kernel) (by decide +kernel) (by decide +kernel) (fun _ _ _ h => h) (Or.inr ⟨by rfl, rfl⟩) (by assumption) ?_
  try simp only [List.getElem_toArray, List.getElem_cons_zero, List.getElem_cons_succ, Act.put, List.setIfInBounds_toArray, List.set_cons_zero, List.set_cons_succ]
  refine wpAnyH_take (i := 25) (v := undef) rfl (by decide +kernel) (by decide +kernel) (by decide +kernel) (fun _ _ _ h => h) (Or.inr ⟨by rfl, rfl⟩) (by assumption) ?_
  try simp only [List.getElem_toArray, List.getElem_cons_zero, List.getElem_cons_succ, Act.put, List.setIfInBounds_toArray, List.set_cons_zero, List.set_cons_succ]
  refine wpAnyH_take (i := 26) (v := undef) rfl (by decide +kernel) (by decide +kernel) (by decide +kernel) (fun _ _ _ h => h) (Or.inr ⟨by rfl, rfl⟩) (by assumption) ?_
  try simp only [List.getElem_toArray, List.getElem_cons_zero, List.getElem_cons_succ, Act.put, List.setIfInBounds_toArray, List.set_cons_zero, List.set_cons_succ]
  refine wpAnyH_take (i := 27) (v := undef) rfl (by decide +kernel) (by decide +kernel) (by decide +kernel) (fun _ _ _ h => h) (Or.inr ⟨by rfl, rfl⟩) (by assumption) ?_
  try simp only [List.getElem_toArray, List.getElem_cons_zero, List.getElem_cons_succ, Act.put, List.setIfInBounds_toArray, List.set_cons_zero, List.set_cons_succ]
  refine wpAnyH_take (i := 28) (v := ?_) rfl (by decide +kernel) (by decide +kernel) (by decide +kernel) (fun _ _ _ h => h) (Or.inl ⟨by rfl, ?_⟩) (by assumption) ?_
  rotate_left
  · intro w1 hSw; (try dsimp only at hSw); (try simp only [List.getElem_toArray, List.getElem_cons_zero, List.getElem_cons_succ]); go_simp; try with_reducible rfl
  try simp only [List.getElem_toArray, List.getElem_cons_zero, List.getElem_cons_succ, Act.put, List.setIfInBounds_toArray, List.set_cons_zero, List.set_cons_succ]
  refine wpAnyH_take (i := 29) (v := ?_) rfl (by decide +kernel) (by decide +kernel) (by decide +kernel) (fun _ _ _ h => h) (Or.inl ⟨by rfl, ?_⟩) (by assumption) ?_
  rotate_left
  · intro w1 hSw; (try dsimp only at hSw); (try simp only [List.getElem_toArray, List.getElem_cons_zero, List.getElem_cons_succ]); go_simp; try with_reducible rfl
  try simp only [List.getElem_toArray, List.getElem_cons_zero, List.getElem_cons_succ, Act.put, List.setIfInBounds_toArray, List.set_cons_zero, List.set_cons_succ]
  refine wpAnyH_done (by decide +kernel) ?_ _
  clear hH
  go_wp2_with fail
  go_ret
  exact ⟨rfl, hb.out⟩

set_option maxRecDepth 100000 in
set_option maxHeartbeats 8000000 in
theorem fieldOrder_3 (k : Int) (x y : WI) (f0 f1 f3 : Bool) (cf : Ret 21 #[.int .i64 k, wv x] (.bool f0)) (cf1 : Ret 21 #[.int .i64 (k + 1), wv x] (.bool f1)) (cf3 : Ret 21 #[.int .i64 (k - 3), wv x] (.bool f3))
    (l1 : (2 ≤ k ∧ k < 5 ∨ 6 ≤ k ∧ k < 9) → f0 = true → f1 = true) (l3 : 6 ≤ k ∧ k < 9 → f0 = true → f3 = true) (sz : Int) (cs : Ret 15 #[.int .i64 k] (.int .i64 sz)) (hsz : (sz == 0) = false) (fx : Ret 29 #[wv x] (.bool true)) (fy : Ret 29 #[wv y] (.bool true)) (u : Int) (cu : Ret 30 #[wv x, wv y] (.int .i64 u)) (du : decide (0 < u) = true) (w : World) :
    Calls Try.prog 6 #[.int .i64 k, wv x, wv y] w fun e w' => e = .returned (.bool true) ∧ Below w.heap.size w w' := by
  obtain ⟨xn, xh, xl⟩ := x
  obtain ⟨yn, yh, yl⟩ := y
  unfold wv at *
  dsimp only at *
  go_enter Try.func6, Try.ntmps6
  go_wp2_with fail
  refine (awake_c.on _).mono ?_
  rintro e w1 ⟨rfl, hb1⟩
  obtain ⟨gx, gy, hb⟩ := two_new (x := ⟨xn, xh, xl⟩) (y := ⟨yn, yh, yl⟩) hb1
  have hs := hb.size
  clear hb1
  replace gx := Lib.hid gx
  replace gy := Lib.hid gy
  replace hb := Lib.hid hb
  replace l1 := Lib.hid l1
  replace l3 := Lib.hid l3
  replace hsz := Lib.hid hsz
  replace du := Lib.hid du
  go_upto_region 3 with fail
  go_cut [34] (fun v0 wx => v0 = .bool false ∧ IsN wx (w.heap.size) ⟨xn, xh, xl⟩ ∧ IsN wx (w.heap.size + 1) ⟨yn, yh, yl⟩ ∧ Below w.heap.size w wx)
  case first =>
    rcases (show (2 ≤ k ∧ k < 5) ∨ (6 ≤ k ∧ k < 9) ∨ k < 2 ∨ k = 5 ∨ 9 ≤ k by omega) with hk | hk | hk | rfl | hk
    · skip
      cases f0 with
      | false =>
        obtain ⟨cx0, cx1, cx2⟩ := gx.out.all
        dsimp only at cx0 cx1 cx2
        go_wp2_with fail
        refine (cf.on _).mono ?_
        rintro e w2 ⟨rfl, hb2⟩
        replace gx := Lib.hid (isN_of hb2 gx.out)
        replace gy := Lib.hid (isN_of hb2 gy.out)
        replace hb := Lib.hid (hb.out.trans (hb2.mono hs))
        clear hs hb2
        have hs := hb.out.size
        clear cx0 cx1 cx2
        obtain ⟨cx0, cx1, cx2⟩ := gx.out.all
        dsimp only at cx0 cx1 cx2
        clear cx0 cx1 cx2
        go_wp2_with fail
        go_meet
        exact ⟨rfl, gx.out, gy.out, hb.out⟩
      | true =>
        obtain ⟨cx0, cx1, cx2⟩ := gx.out.all
        dsimp only at cx0 cx1 cx2
        go_wp2_with fail
        refine (cf.on _).mono ?_
        rintro e w2 ⟨rfl, hb2⟩
        replace gx := Lib.hid (isN_of hb2 gx.out)
        replace gy := Lib.hid (isN_of hb2 gy.out)
        replace hb := Lib.hid (hb.out.trans (hb2.mono hs))
        clear hs hb2
        have hs := hb.out.size
        clear cx0 cx1 cx2
        obtain ⟨cx0, cx1, cx2⟩ := gx.out.all
        dsimp only at cx0 cx1 cx2
        obtain rfl := l1.out (by omega) (by simp)
        go_wp2_with fail
        refine (cf1.on _).mono ?_
        rintro e w3 ⟨rfl, hb3⟩
        replace gx := Lib.hid (isN_of hb3 gx.out)
        replace gy := Lib.hid (isN_of hb3 gy.out)
        replace hb := Lib.hid (hb.out.trans (hb3.mono hs))
        clear hs hb3
        have hs := hb.out.size
        clear cx0 cx1 cx2
        go_wp2_with fail
        go_meet
        exact ⟨rfl, gx.out, gy.out, hb.out⟩
    · skip
      cases f0 with
      | false =>
        obtain ⟨cx0, cx1, cx2⟩ := gx.out.all
        dsimp only at cx0 cx1 cx2
        go_wp2_with fail
        refine (cf.on _).mono ?_
        rintro e w2 ⟨rfl, hb2⟩
        replace gx := Lib.hid (isN_of hb2 gx.out)
        replace gy := Lib.hid (isN_of hb2 gy.out)
        replace hb := Lib.hid (hb.out.trans (hb2.mono hs))
        clear hs hb2
        have hs := hb.out.size
        clear cx0 cx1 cx2
        obtain ⟨cx0, cx1, cx2⟩ := gx.out.all
        dsimp only at cx0 cx1 cx2
        clear cx0 cx1 cx2
        go_wp2_with fail
        go_meet
        exact ⟨rfl, gx.out, gy.out, hb.out⟩
      | true =>
        obtain ⟨cx0, cx1, cx2⟩ := gx.out.all
        dsimp only at cx0 cx1 cx2
        go_wp2_with fail
        refine (cf.on _).mono ?_
        rintro e w2 ⟨rfl, hb2⟩
        replace gx := Lib.hid (isN_of hb2 gx.out)
        replace gy := Lib.hid (isN_of hb2 gy.out)
        replace hb := Lib.hid (hb.out.trans (hb2.mono hs))
        clear hs hb2
        have hs := hb.out.size
        clear cx0 cx1 cx2
        obtain ⟨cx0, cx1, cx2⟩ := gx.out.all
        dsimp only at cx0 cx1 cx2
        obtain rfl := l1.out (by omega) (by simp)
        go_wp2_with fail
        refine (cf1.on _).mono ?_
        rintro e w3 ⟨rfl, hb3⟩
        replace gx := Lib.hid (isN_of hb3 gx.out)
        replace gy := Lib.hid (isN_of hb3 gy.out)
        replace hb := Lib.hid (hb.out.trans (hb3.mono hs))
        clear hs hb3
        have hs := hb.out.size
        clear cx0 cx1 cx2
        go_wp2_with fail
        go_meet
        exact ⟨rfl, gx.out, gy.out, hb.out⟩
    · skip
      go_wp2_with fail
      go_meet
      exact ⟨rfl, gx.out, gy.out, hb.out⟩
    · skip
      go_wp2_with fail
      go_meet
      exact ⟨rfl, gx.out, gy.out, hb.out⟩
    · skip
      go_wp2_with fail
      go_meet
      exact ⟨rfl, gx.out, gy.out, hb.out⟩
  obtain ⟨rfl, gx0, gy0, hb0⟩ := hcut
  clear hs hb gx gy
  have gx := Lib.hid gx0
  have gy := Lib.hid gy0
  have hb := Lib.hid hb0
  clear hb0 gx0 gy0
  have hs := hb.out.size
  go_upto_region 5 with fail
  go_cut [52] (fun v0 wx => v0 = .bool false ∧ IsN wx (w.heap.size) ⟨xn, xh, xl⟩ ∧ IsN wx (w.heap.size + 1) ⟨yn, yh, yl⟩ ∧ Below w.heap.size w wx)
  case first =>
    rcases (show (6 ≤ k ∧ k < 9) ∨ k < 6 ∨ 9 ≤ k by omega) with hk | hk | hk
    · skip
      cases f0 with
      | false =>
        obtain ⟨cx0, cx1, cx2⟩ := gx.out.all
        dsimp only at cx0 cx1 cx2
        go_wp2_with fail
        refine (cf.on _).mono ?_
        rintro e w2 ⟨rfl, hb2⟩
        replace gx := Lib.hid (isN_of hb2 gx.out)
        replace gy := Lib.hid (isN_of hb2 gy.out)
        replace hb := Lib.hid (hb.out.trans (hb2.mono hs))
        clear hs hb2
        have hs := hb.out.size
        clear cx0 cx1 cx2
        obtain ⟨cx0, cx1, cx2⟩ := gx.out.all
        dsimp only at cx0 cx1 cx2
        clear cx0 cx1 cx2
        go_wp2_with fail
        go_meet
        exact ⟨rfl, gx.out, gy.out, hb.out⟩
      | true =>
        obtain ⟨cx0, cx1, cx2⟩ := gx.out.all
        dsimp only at cx0 cx1 cx2
        go_wp2_with fail
        refine (cf.on _).mono ?_
        rintro e w2 ⟨rfl, hb2⟩
        replace gx := Lib.hid (isN_of hb2 gx.out)
        replace gy := Lib.hid (isN_of hb2 gy.out)
        replace hb := Lib.hid (hb.out.trans (hb2.mono hs))
        clear hs hb2
        have hs := hb.out.size
        clear cx0 cx1 cx2
        obtain ⟨cx0, cx1, cx2⟩ := gx.out.all
        dsimp only at cx0 cx1 cx2
        obtain rfl := l3.out (by omega) (by simp)
        go_wp2_with fail
        refine (cf3.on _).mono ?_
        rintro e w3 ⟨rfl, hb3⟩
        replace gx := Lib.hid (isN_of hb3 gx.out)
        replace gy := Lib.hid (isN_of hb3 gy.out)
        replace hb := Lib.hid (hb.out.trans (hb3.mono hs))
        clear hs hb3
        have hs := hb.out.size
        clear cx0 cx1 cx2
        go_wp2_with fail
        go_meet
        exact ⟨rfl, gx.out, gy.out, hb.out⟩
    · skip
      go_wp2_with fail
      go_meet
      exact ⟨rfl, gx.out, gy.out, hb.out⟩
    · skip
      go_wp2_with fail
      go_meet
      exact ⟨rfl, gx.out, gy.out, hb.out⟩
  obtain ⟨rfl, gx0, gy0, hb0⟩ := hcut
  clear hs hb gx gy
  have gx := Lib.hid gx0
  have gy := Lib.hid gy0
  have hb := Lib.hid hb0
  clear hb0 gx0 gy0
  have hs := hb.out.size
  replace hsz := hsz.out
  replace du := du.out
  replace hb := Lib.hid (below_drewed hb.out)
  clear hs
  have hs := hb.out.size
  obtain ⟨cx0, cx1, cx2⟩ := gx.out.all
  obtain ⟨cy0, cy1, cy2⟩ := gy.out.all
  dsimp only at cx0 cx1 cx2 cy0 cy1 cy2
  go_wp2_with fail
  refine wp_region_held_at (S := fun w1 => w1.cell? ⟨w.heap.size, 0, none⟩ = some (.bool xn) ∧ w1.cell? ⟨w.heap.size, 1, none⟩ = some (.int .u64 xh) ∧ w1.cell? ⟨w.heap.size, 2, none⟩ = some (.int .u64 xl) ∧ w1.cell? ⟨w.heap.size + 1, 0, none⟩ = some (.bool yn) ∧ w1.cell? ⟨w.heap.size + 1, 1, none⟩ = some (.int .u64 yh) ∧ w1.cell? ⟨w.heap.size + 1, 2, none⟩ = some (.int .u64 yl)) 30 rfl (by kernel_rfl) (by go_keep) (fun hH => ?_)
  refine wpAnyH_take (i := 0) (v := ?_) rfl (by decide +kernel) (by decide +kernel) (by decide +kernel) (fun _ _ _ h => h) (Or.inl ⟨by rfl, ?_⟩) (by assumption) ?_
  rotate_left
  · intro w1 hSw; (try dsimp only at hSw); (try simp only [List.getElem_toArray, List.getElem_cons_zero]); go_simp; try with_reducible rfl
  try simp only [List.getElem_toArray, List.getElem_cons_zero, Act.put, List.setIfInBounds_toArray, List.set_cons_zero, List.set_cons_succ]
  refine wpAnyH_ready (rs := [1]) (by decide +kernel) (by simp) ?_
  refine AllReadyH.cons rfl (fun K hK => ?_) AllReadyH.nil
  (try simp only [List.getElem_toArray, List.getElem_cons_zero, List.getElem_cons_succ])
  go_simp
  refine (cs.on _).mono ?_
  rintro e wr ⟨rfl, hbr⟩
  have hb2 := Lib.hid (hb.out.trans (hbr.mono hs))
  clear hb hs
  have hb := hb2
  clear hb2
  have hs := hb.out.size
  have gg := Lib.hid (isN_of hbr gx.out)
  clear gx
  have gx := gg
  clear gg
  have gg := Lib.hid (isN_of hbr gy.out)
  clear gy
  have gy := gg
  clear gg
  clear hH hbr cx0 cx1 cx2 cy0 cy1 cy2
  obtain ⟨cx0, cx1, cx2⟩ := gx.out.all
  obtain ⟨cy0, cy1, cy2⟩ := gy.out.all
  dsimp only at cx0 cx1 cx2 cy0 cy1 cy2
  go_simp
  refine hK.out _ _ (by go_keep) (fun hH => ?_)
  clear hK K
  try simp only [List.getElem_toArray, List.getElem_cons_zero, List.getElem_cons_succ, Act.put, List.setIfInBounds_toArray, List.set_cons_zero, List.set_cons_succ]
  refine wpAnyH_take (i := 2) (v := ?_) rfl (by decide +kernel) (by decide +kernel) (by decide +kernel) (fun _ _ _ h => h) (Or.inl ⟨by rfl, ?_⟩) (by assumption) ?_
  rotate_left
  · intro w1 hSw; (try dsimp only at hSw); (try simp only [List.getElem_toArray, List.getElem_cons_zero, List.getElem_cons_succ]); go_simp; try with_reducible rfl
  try simp only [List.getElem_toArray, List.getElem_cons_zero, List.getElem_cons_succ, Act.put, List.setIfInBounds_toArray, List.set_cons_zero, List.set_cons_succ]
  refine wpAnyH_take (i := 3) (v := ?_) rfl (by decide +kernel) (by decide +kernel) (by decide +kernel) (fun _ _ _ h => h) (Or.inl ⟨by rfl, ?_⟩) (by assumption) ?_
  rotate_left
  · intro w1 hSw; (try dsimp only at hSw); (try simp only [List.getElem_toArray, List.getElem_cons_zero, List.getElem_cons_succ]); go_simp; try with_reducible rfl
  try simp only [List.getElem_toArray, List.getElem_cons_zero, List.getElem_cons_succ, Act.put, List.setIfInBounds_toArray, List.set_cons_zero, List.set_cons_succ]
  refine wpAnyH_take (i := 4) (v := ?_) rfl (by decide +kernel) (by decide +kernel) (by decide +kernel) (fun _ _ _ h => h) (Or.inl ⟨by rfl, ?_⟩) (by assumption) ?_
  rotate_left
  · intro w1 hSw; (try dsimp only at hSw); (try simp only [List.getElem_toArray, List.getElem_cons_zero, List.getElem_cons_succ]); go_simp; try with_reducible rfl
  try simp only [List.getElem_toArray, List.getElem_cons_zero, List.getElem_cons_succ, Act.put, List.setIfInBounds_toArray, List.set_cons_zero, List.set_cons_succ]
  refine wpAnyH_ready (rs := [5]) (by decide +kernel) (by simp) ?_
  refine AllReadyH.cons rfl (fun K hK => ?_) AllReadyH.nil
  (try simp only [List.getElem_toArray, List.getElem_cons_zero, List.getElem_cons_succ])
  go_simp
  refine (fx.on _).mono ?_
  rintro e wr ⟨rfl, hbr⟩
  have hb2 := Lib.hid (hb.out.trans (hbr.mono hs))
  clear hb hs
  have hb := hb2
  clear hb2
  have hs := hb.out.size
  have gg := Lib.hid (isN_of hbr gx.out)
  clear gx
  have gx := gg
  clear gg
  have gg := Lib.hid (isN_of hbr gy.out)
  clear gy
  have gy := gg
  clear gg
  clear hH hbr cx0 cx1 cx2 cy0 cy1 cy2
  obtain ⟨cx0, cx1, cx2⟩ := gx.out.all
  obtain ⟨cy0, cy1, cy2⟩ := gy.out.all
  dsimp only at cx0 cx1 cx2 cy0 cy1 cy2
  go_simp
  refine hK.out _ _ (by go_keep) (fun hH => ?_)
  clear hK K
  try simp only [List.getElem_toArray, List.getElem_cons_zero, List.getElem_cons_succ, Act.put, List.setIfInBounds_toArray, List.set_cons_zero, List.set_cons_succ]
  refine wpAnyH_take (i := 6) (v := ?_) rfl (by decide +kernel) (by decide +kernel) (by decide +kernel) (fun _ _ _ h => h) (Or.inl ⟨by rfl, ?_⟩) (by assumption) ?_
  rotate_left
  · intro w1 hSw; (try dsimp only at hSw); (try simp only [List.getElem_toArray, List.getElem_cons_zero, List.getElem_cons_succ]); go_simp; try with_reducible rfl
  try simp only [List.getElem_toArray, List.getElem_cons_zero, List.getElem_cons_succ, Act.put, List.setIfInBounds_toArray, List.set_cons_zero, List.set_cons_succ]
  refine wpAnyH_take (i := 7) (v := ?_) rfl (by decide +kernel) (by decide +kernel) (by decide +kernel) (fun _ _ _ h => h) (Or.inl ⟨by rfl, ?_⟩) (by assumption) ?_
  rotate_left
  · intro w1 hSw; (try dsimp only at hSw); (try simp only [List.getElem_toArray, List.getElem_cons_zero, List.getElem_cons_succ]); go_simp; try with_reducible rfl
  try simp only [List.getElem_toArray, List.getElem_cons_zero, List.getElem_cons_succ, Act.put, List.setIfInBounds_toArray, List.set_cons_zero, List.set_cons_succ]
  refine wpAnyH_take (i := 8) (v := ?_) rfl (by decide +kernel) (by decide +kernel) (by decide +kernel) (fun _ _ _ h => h) (Or.inl ⟨by rfl, ?_⟩) (by assumption) ?_
  rotate_left
  · intro w1 hSw; (try dsimp only at hSw); (try simp only [List.getElem_toArray, List.getElem_cons_zero, List.getElem_cons_succ]); go_simp; try with_reducible rfl
  try simp only [List.getElem_toArray, List.getElem_cons_zero, List.getElem_cons_succ, Act.put, List.setIfInBounds_toArray, List.set_cons_zero, List.set_cons_succ]
  refine wpAnyH_take (i := 9) (v := ?_) rfl (by decide +kernel) (by decide +kernel) (by decide +kernel) (fun _ _ _ h => h) (Or.inl ⟨by rfl, ?_⟩) (by assumption) ?_
  rotate_left
  · intro w1 hSw; (try dsimp only at hSw); (try simp only [List.getElem_toArray, List.getElem_cons_zero, List.getElem_cons_succ]); go_simp; try with_reducible rfl
  try simp only [List.getElem_toArray, List.getElem_cons_zero, List.getElem_cons_succ, Act.put, List.setIfInBounds_toArray, List.set_cons_zero, List.set_cons_succ]
  refine wpAnyH_ready (rs := [10]) (by decide +kernel) (by simp) ?_
  refine AllReadyH.cons rfl (fun K hK => ?_) AllReadyH.nil
  (try simp only [List.getElem_toArray, List.getElem_cons_zero, List.getElem_cons_succ])
  go_simp
  refine (fy.on _).mono ?_
  rintro e wr ⟨rfl, hbr⟩
  have hb2 := Lib.hid (hb.out.trans (hbr.mono hs))
  clear hb hs
  have hb := hb2
  clear hb2
  have hs := hb.out.size
  have gg := Lib.hid (isN_of hbr gx.out)
  clear gx
  have gx := gg
  clear gg
  have gg := Lib.hid (isN_of hbr gy.out)
  clear gy
  have gy := gg
  clear gg
  clear hH hbr cx0 cx1 cx2 cy0 cy1 cy2
  obtain ⟨cx0, cx1, cx2⟩ := gx.out.all
  obtain ⟨cy0, cy1, cy2⟩ := gy.out.all
  dsimp only at cx0 cx1 cx2 cy0 cy1 cy2
  go_simp
  refine hK.out _ _ (by go_keep) (fun hH => ?_)
  clear hK K
  try simp only [List.getElem_toArray, List.getElem_cons_zero, List.getElem_cons_succ, Act.put, List.setIfInBounds_toArray, List.set_cons_zero, List.set_cons_succ]
  refine wpAnyH_take (i := 11) (v := ?_) rfl (by decide +kernel) (by decide +kernel) (by decide +kernel) (fun _ _ _ h => h) (Or.inl ⟨by rfl, ?_⟩) (by assumption) ?_
  rotate_left
  · intro w1 hSw; (try dsimp only at hSw); (try simp only [List.getElem_toArray, List.getElem_cons_zero, List.getElem_cons_succ]); go_simp; try with_reducible rfl
  try simp only [List.getElem_toArray, List.getElem_cons_zero, List.getElem_cons_succ, Act.put, List.setIfInBounds_toArray, List.set_cons_zero, List.set_cons_succ]
  refine wpAnyH_take (i := 12) (v := ?_) rfl (by decide +kernel) (by decide +kernel) (by decide +kernel) (fun _ _ _ h => h) (Or.inl ⟨by rfl, ?_⟩) (by assumption) ?_
  rotate_left
  · intro w1 hSw; (try dsimp only at hSw); (try simp only [List.getElem_toArray, List.getElem_cons_zero, List.getElem_cons_succ]); go_simp; try with_reducible rfl
  try simp only [List.getElem_toArray, List.getElem_cons_zero, List.getElem_cons_succ, Act.put, List.setIfInBounds_toArray, List.set_cons_zero, List.set_cons_succ]
  refine wpAnyH_take (i := 13) (v := ?_) rfl (by decide +kernel) (by decide +kernel) (by decide +kernel) (fun _ _ _ h => h) (Or.inl ⟨by rfl, ?_⟩) (by assumption) ?_
  rotate_left
  · intro w1 hSw; (try dsimp only at hSw); (try simp only [List.getElem_toArray, List.getElem_cons_zero, List.getElem_cons_succ]); go_simp; try with_reducible rfl
  try simp only [List.getElem_toArray, List.getElem_cons_zero, List.getElem_cons_succ, Act.put, List.setIfInBounds_toArray, List.set_cons_zero, List.set_cons_succ]
  refine wpAnyH_take (i := 14) (v := ?_) rfl (by decide +kernel) (by decide +kernel) (by decide +kernel) (fun _ _ _ h => h) (Or.inl ⟨by rfl, ?_⟩) (by assumption) ?_
  rotate_left
  · intro w1 hSw; (try dsimp only at hSw); (try simp only [List.getElem_toArray, List.getElem_cons_zero, List.getElem_cons_succ]); go_simp; try with_reducible rfl
  try simp only [List.getElem_toArray, List.getElem_cons_zero, List.getElem_cons_succ, Act.put, List.setIfInBounds_toArray, List.set_cons_zero, List.set_cons_succ]
  refine wpAnyH_take (i := 15) (v := ?_) rfl (by decide +kernel) (by decide +kernel) (by decide +kernel) (fun _ _ _ h => h) (Or.inl ⟨by rfl, ?_⟩) (by assumption) ?_
  rotate_left
  · intro w1 hSw; (try dsimp only at hSw); (try simp only [List.getElem_toArray, List.getElem_cons_zero, List.getElem_cons_succ]); go_simp; try with_reducible rfl
  try simp only [List.getElem_toArray, List.getElem_cons_zero, List.getElem_cons_succ, Act.put, List.setIfInBounds_toArray, List.set_cons_zero, List.set_cons_succ]
  refine wpAnyH_ready (rs := [16]) (by decide +kernel) (by simp) ?_
  refine AllReadyH.cons rfl (fun K hK => ?_) AllReadyH.nil
  (try simp only [List.getElem_toArray, List.getElem_cons_zero, List.getElem_cons_succ])
  go_simp
  refine (cu.on _).mono ?_
  rintro e wr ⟨rfl, hbr⟩
  have hb2 := Lib.hid (hb.out.trans (hbr.mono hs))
  clear hb hs
  have hb := hb2
  clear hb2
  have hs := hb.out.size
  have gg := Lib.hid (isN_of hbr gx.out)
  clear gx
  have gx := gg
  clear gg
  have gg := Lib.hid (isN_of hbr gy.out)
  clear gy
  have gy := gg
  clear gg
  clear hH hbr cx0 cx1 cx2 cy0 cy1 cy2
  obtain ⟨cx0, cx1, cx2⟩ := gx.out.all
  obtain ⟨cy0, cy1, cy2⟩ := gy.out.all
  dsimp only at cx0 cx1 cx2 cy0 cy1 cy2
  go_simp
  refine hK.out _ _ (by go_keep) (fun hH => ?_)
  clear hK K
  try simp only [List.getElem_toArray, List.getElem_cons_zero, List.getElem_cons_succ, Act.put, List.setIfInBounds_toArray, List.set_cons_zero, List.set_cons_succ]
  refine wpAnyH_take (i := 17) (v := ?_) rfl (by decide +kernel) (by decide +kernel) (by decide +kernel) (fun _ _ _ h => h) (Or.inl ⟨by rfl, ?_⟩) (by assumption) ?_
  rotate_left
  · intro w1 hSw; (try dsimp only at hSw); (try simp only [List.getElem_toArray, List.getElem_cons_zero, List.getElem_cons_succ]); go_simp; try with_reducible rfl
  try simp only [List.getElem_toArray, List.getElem_cons_zero, List.getElem_cons_succ, Act.put, List.setIfInBounds_toArray, List.set_cons_zero, List.set_cons_succ]
  refine wpAnyH_take (i := 18) (v := ?_) rfl (by decide +kernel) (by decide +kernel) (by decide +kernel) (fun _ _ _ h => h) (Or.inl ⟨by rfl, ?_⟩) (by assumption) ?_
  rotate_left
  · intro w1 hSw; (try dsimp only at hSw); (try simp only [List.getElem_toArray, List.getElem_cons_zero, List.getElem_cons_succ]); go_simp; try with_reducible rfl
  try simp only [List.getElem_toArray, List.getElem_cons_zero, List.getElem_cons_succ, Act.put, List.setIfInBounds_toArray, List.set_cons_zero, List.set_cons_succ]
  refine wpAnyH_take (i := 19) (v := ?_) rfl (by decide +kernel) (by decide +kernel) (by decide +kernel) (fun _ _ _ h => h) (Or.inl ⟨by rfl, ?_⟩) (by assumption) ?_
  rotate_left
  · intro w1 hSw; (try dsimp only at hSw); (try simp only [List.getElem_toArray, List.getElem_cons_zero, List.getElem_cons_succ]); go_simp; try with_reducible rfl
  try simp only [List.getElem_toArray, List.getElem_cons_zero, List.getElem_cons_succ, Act.put, List.setIfInBounds_toArray, List.set_cons_zero, List.set_cons_succ]
  refine wpAnyH_take (i := 20) (v := undef) rfl (by decide +kernel) (by decide +kernel) (by decide +kernel) (fun _ _ _ h => h) (Or.inr ⟨by rfl, rfl⟩) (by assumption) ?_
  try simp only [List.getElem_toArray, List.getElem_cons_zero, List.getElem_cons_succ, Act.put, List.setIfInBounds_toArray, List.set_cons_zero, List.set_cons_succ]
  refine wpAnyH_take (i := 21) (v := undef) rfl (by decide +kernel) (by decide +kernel) (by decide +kernel) (fun _ _ _ h => h) (Or.inr ⟨by rfl, rfl⟩) (by assumption) ?_
  try simp only [List.getElem_toArray, List.getElem_cons_zero, List.getElem_cons_succ, Act.put, List.setIfInBounds_toArray, List.set_cons_zero, List.set_cons_succ]
  refine wpAnyH_take (i := 22) (v := undef) rfl (by decide +kernel) (by decide +kernel) (by decide +kernel) (fun _ _ _ h => h) (Or.inr ⟨by rfl, rfl⟩) (by assumption) ?_
  try simp only [List.getElem_toArray, List.getElem_cons_zero, List.getElem_cons_succ, Act.put, List.setIfInBounds_toArray, List.set_cons_zero, List.set_cons_succ]
  refine wpAnyH_take (i := 23) (v := undef) rfl (by decide +kernel) (by decide +kernel) (by decide +kernel) (fun _ _ _ h => h) (Or.inr ⟨by rfl, rfl⟩) (by assumption) ?_
  try simp only [List.getElem_toArray, List.getElem_cons_zero, List.getElem_cons_succ, Act.put, List.setIfInBounds_toArray, List.set_cons_zero, List.set_cons_succ]
  refine wpAnyH_take (i := 24) (v := undef) rfl (by decide +kernel) (by decide +kernel) (by decide +kernel) (fun _ _ _ h => h) (Or.inr ⟨by rfl, rfl⟩) (by assumption) ?_
  try simp only [List.getElem_toArray, List.getElem_cons_zero, List.getElem_cons_succ, Act.put, List.setIfInBounds_toArray, List.set_cons_zero, List.set_cons_succ]
  refine wpAnyH_take (i := 25) (v := undef) rfl (by decide +kernel) (by decide +kernel) (by decide +kernel) (fun _ _ _ h => h) (Or.inr ⟨by rfl, rfl⟩) (by assumption) ?_
  try simp only [List.getElem_toArray, List.getElem_cons_zero, List.getElem_cons_succ, Act.put, List.setIfInBounds_toArray, List.set_cons_zero, List.set_cons_succ]
  refine wpAnyH_take (i := 26) (v := undef) rfl (by decide +kernel) (by decide +kernel) (by decide +kernel) (fun _ _ _ h => h) (Or.inr ⟨by rfl, rfl⟩) (by assumption) ?_
  try simp only [List.getElem_toArray, List.getElem_cons_zero, List.getElem_cons_succ, Act.put, List.setIfInBounds_toArray, List.set_cons_zero, List.set_cons_succ]
  refine wpAnyH_take (i := 27) (v := undef) rfl (by decide +kernel) (by decide +kernel) (by decide +kernel) (fun _ _ _ h => h) (Or.inr ⟨by rfl, rfl⟩) (by assumption) ?_
  try simp only [List.getElem_toArray, List.getElem_cons_zero, List.getElem_cons_succ, Act.put, List.setIfInBounds_toArray, List.set_cons_zero, List.set_cons_succ]
  refine wpAnyH_take (i := 28) (v := ?_) rfl (by decide +kernel) (by decide +kernel) (by decide +kernel) (fun _ _ _ h => h) (Or.inl ⟨by rfl, ?_⟩) (by assumption) ?_
  rotate_left
  · intro w1 hSw; (try dsimp only at hSw); (try simp only [List.getElem_toArray, List.getElem_cons_zero, List.getElem_cons_succ]); go_simp; try with_reducible rfl
  try simp only [List.getElem_toArray, List.getElem_cons_zero, List.getElem_cons_succ, Act.put, List.setIfInBounds_toArray, List.set_cons_zero, List.set_cons_succ]
  refine wpAnyH_take (i := 29) (v := ?_) rfl (by decide +kernel) (by decide +kernel) (by decide +kernel) (fun _ _ _ h => h) (Or.inl ⟨by rfl, ?_⟩) (by assumption) ?_
  rotate_left
  · intro w1 hSw; (try dsimp only at hSw); (try simp only [List.getElem_toArray, List.getElem_cons_zero, List.getElem_cons_succ]); go_simp; try with_reducible rfl
  try simp only [List.getElem_toArray, List.getElem_cons_zero, List.getElem_cons_succ, Act.put, List.setIfInBounds_toArray, List.set_cons_zero, List.set_cons_succ]
  refine wpAnyH_done (by decide +kernel) ?_ _
  clear hH
  go_wp2_with fail
  go_ret
  exact ⟨rfl, hb.out⟩

set_option maxRecDepth 100000 in
set_option maxHeartbeats 8000000 in
theorem fieldOrder_4 (k : Int) (x y : WI) (f0 f1 f3 : Bool) (cf : Ret 21 #[.int .i64 k, wv x] (.bool f0)) (cf1 : Ret 21 #[.int .i64 (k + 1), wv x] (.bool f1)) (cf3 : Ret 21 #[.int .i64 (k - 3), wv x] (.bool f3))
    (l1 : (2 ≤ k ∧ k < 5 ∨ 6 ≤ k ∧ k < 9) → f0 = true → f1 = true) (l3 : 6 ≤ k ∧ k < 9 → f0 = true → f3 = true) (sz : Int) (cs : Ret 15 #[.int .i64 k] (.int .i64 sz)) (hsz : (sz == 0) = false) (fx : Ret 29 #[wv x] (.bool true)) (fy : Ret 29 #[wv y] (.bool true)) (u : Int) (cu : Ret 30 #[wv x, wv y] (.int .i64 u)) (du : decide (0 < u) = false) (X Y : WI) (cx : Ret 25 #[.int .i64 k, wv x] (wv X)) (cy : Ret 25 #[.int .i64 k, wv y] (wv Y)) (v : Int) (cv : Ret 30 #[wv X, wv Y] (.int .i64 v)) (dv : decide (v ≤ 0) = true) (w : World) :
    Calls Try.prog 6 #[.int .i64 k, wv x, wv y] w fun e w' => e = .returned (.bool true) ∧ Below w.heap.size w w' := by
  obtain ⟨xn, xh, xl⟩ := x
  obtain ⟨yn, yh, yl⟩ := y
  obtain ⟨Xn, Xh, Xl⟩ := X
  obtain ⟨Yn, Yh, Yl⟩ := Y
  unfold wv at *
  dsimp only at *
  go_enter Try.func6, Try.ntmps6
  go_wp2_with fail
  refine (awake_c.on _).mono ?_
  rintro e w1 ⟨rfl, hb1⟩
  obtain ⟨gx, gy, hb⟩ := two_new (x := ⟨xn, xh, xl⟩) (y := ⟨yn, yh, yl⟩) hb1
  have hs := hb.size
  clear hb1
  replace gx := Lib.hid gx
  replace gy := Lib.hid gy
  replace hb := Lib.hid hb
  replace l1 := Lib.hid l1
  replace l3 := Lib.hid l3
  replace hsz := Lib.hid hsz
  replace du := Lib.hid du
  replace dv := Lib.hid dv
  go_upto_region 3 with fail
  go_cut [34] (fun v0 wx => v0 = .bool false ∧ IsN wx (w.heap.size) ⟨xn, xh, xl⟩ ∧ IsN wx (w.heap.size + 1) ⟨yn, yh, yl⟩ ∧ Below w.heap.size w wx)
  case first =>
    rcases (show (2 ≤ k ∧ k < 5) ∨ (6 ≤ k ∧ k < 9) ∨ k < 2 ∨ k = 5 ∨ 9 ≤ k by omega) with hk | hk | hk | rfl | hk
    · skip
      cases f0 with
      | false =>
        obtain ⟨cx0, cx1, cx2⟩ := gx.out.all
        dsimp only at cx0 cx1 cx2
        go_wp2_with fail
        refine (cf.on _).mono ?_
        rintro e w2 ⟨rfl, hb2⟩
        replace gx := Lib.hid (isN_of hb2 gx.out)
        replace gy := Lib.hid (isN_of hb2 gy.out)
        replace hb := Lib.hid (hb.out.trans (hb2.mono hs))
        clear hs hb2
        have hs := hb.out.size
        clear cx0 cx1 cx2
        obtain ⟨cx0, cx1, cx2⟩ := gx.out.all
        dsimp only at cx0 cx1 cx2
        clear cx0 cx1 cx2
        go_wp2_with fail
        go_meet
        exact ⟨rfl, gx.out, gy.out, hb.out⟩
      | true =>
        obtain ⟨cx0, cx1, cx2⟩ := gx.out.all
        dsimp only at cx0 cx1 cx2
        go_wp2_with fail
        refine (cf.on _).mono ?_
        rintro e w2 ⟨rfl, hb2⟩
        replace gx := Lib.hid (isN_of hb2 gx.out)
        replace gy := Lib.hid (isN_of hb2 gy.out)
        replace hb := Lib.hid (hb.out.trans (hb2.mono hs))
        clear hs hb2
        have hs := hb.out.size
        clear cx0 cx1 cx2
        obtain ⟨cx0, cx1, cx2⟩ := gx.out.all
        dsimp only at cx0 cx1 cx2
        obtain rfl := l1.out (by omega) (by simp)
        go_wp2_with fail
        refine (cf1.on _).mono ?_
        rintro e w3 ⟨rfl, hb3⟩
        replace gx := Lib.hid (isN_of hb3 gx.out)
        replace gy := Lib.hid (isN_of hb3 gy.out)
        replace hb := Lib.hid (hb.out.trans (hb3.mono hs))
        clear hs hb3
        have hs := hb.out.size
        clear cx0 cx1 cx2
        go_wp2_with fail
        go_meet
        exact ⟨rfl, gx.out, gy.out, hb.out⟩
    · skip
      cases f0 with
      | false =>
        obtain ⟨cx0, cx1, cx2⟩ := gx.out.all
        dsimp only at cx0 cx1 cx2
        go_wp2_with fail
        refine (cf.on _).mono ?_
        rintro e w2 ⟨rfl, hb2⟩
        replace gx := Lib.hid (isN_of hb2 gx.out)
        replace gy := Lib.hid (isN_of hb2 gy.out)
        replace hb := Lib.hid (hb.out.trans (hb2.mono hs))
        clear hs hb2
        have hs := hb.out.size
        clear cx0 cx1 cx2
        obtain ⟨cx0, cx1, cx2⟩ := gx.out.all
        dsimp only at cx0 cx1 cx2
        clear cx0 cx1 cx2
        go_wp2_with fail
        go_meet
        exact ⟨rfl, gx.out, gy.out, hb.out⟩
      | true =>
        obtain ⟨cx0, cx1, cx2⟩ := gx.out.all
        dsimp only at cx0 cx1 cx2
        go_wp2_with fail
        refine (cf.on _).mono ?_
        rintro e w2 ⟨rfl, hb2⟩
        replace gx := Lib.hid (isN_of hb2 gx.out)
        replace gy := Lib.hid (isN_of hb2 gy.out)
        replace hb := Lib.hid (hb.out.trans (hb2.mono hs))
        clear hs hb2
        have hs := hb.out.size
        clear cx0 cx1 cx2
        obtain ⟨cx0, cx1, cx2⟩ := gx.out.all
        dsimp only at cx0 cx1 cx2
        obtain rfl := l1.out (by omega) (by simp)
        go_wp2_with fail
        refine (cf1.on _).mono ?_
        rintro e w3 ⟨rfl, hb3⟩
        replace gx := Lib.hid (isN_of hb3 gx.out)
        replace gy := Lib.hid (isN_of hb3 gy.out)
        replace hb := Lib.hid (hb.out.trans (hb3.mono hs))
        clear hs hb3
        have hs := hb.out.size
        clear cx0 cx1 cx2
        go_wp2_with fail
        go_meet
        exact ⟨rfl, gx.out, gy.out, hb.out⟩
    · skip
      go_wp2_with fail
      go_meet
      exact ⟨rfl, gx.out, gy.out, hb.out⟩
    · skip
      go_wp2_with fail
      go_meet
      exact ⟨rfl, gx.out, gy.out, hb.out⟩
    · skip
      go_wp2_with fail
      go_meet
      exact ⟨rfl, gx.out, gy.out, hb.out⟩
  obtain ⟨rfl, gx0, gy0, hb0⟩ := hcut
  clear hs hb gx gy
  have gx := Lib.hid gx0
  have gy := Lib.hid gy0
  have hb := Lib.hid hb0
  clear hb0 gx0 gy0
  have hs := hb.out.size
  go_upto_region 5 with fail
  go_cut [52] (fun v0 wx => v0 = .bool false ∧ IsN wx (w.heap.size) ⟨xn, xh, xl⟩ ∧ IsN wx (w.heap.size + 1) ⟨yn, yh, yl⟩ ∧ Below w.heap.size w wx)
  case first =>
    rcases (show (6 ≤ k ∧ k < 9) ∨ k < 6 ∨ 9 ≤ k by omega) with hk | hk | hk
    · skip
      cases f0 with
      | false =>
        obtain ⟨cx0, cx1, cx2⟩ := gx.out.all
        dsimp only at cx0 cx1 cx2
        go_wp2_with fail
        refine (cf.on _).mono ?_
        rintro e w2 ⟨rfl, hb2⟩
        replace gx := Lib.hid (isN_of hb2 gx.out)
        replace gy := Lib.hid (isN_of hb2 gy.out)
        replace hb := Lib.hid (hb.out.trans (hb2.mono hs))
        clear hs hb2
        have hs := hb.out.size
        clear cx0 cx1 cx2
        obtain ⟨cx0, cx1, cx2⟩ := gx.out.all
        dsimp only at cx0 cx1 cx2
        clear cx0 cx1 cx2
        go_wp2_with fail
        go_meet
        exact ⟨rfl, gx.out, gy.out, hb.out⟩
      | true =>
        obtain ⟨cx0, cx1, cx2⟩ := gx.out.all
        dsimp only at cx0 cx1 cx2
        go_wp2_with fail
        refine (cf.on _).mono ?_
        rintro e w2 ⟨rfl, hb2⟩
        replace gx := Lib.hid (isN_of hb2 gx.out)
        replace gy := Lib.hid (isN_of hb2 gy.out)
        replace hb := Lib.hid (hb.out.trans (hb2.mono hs))
        clear hs hb2
        have hs := hb.out.size
        clear cx0 cx1 cx2
        obtain ⟨cx0, cx1, cx2⟩ := gx.out.all
        dsimp only at cx0 cx1 cx2
        obtain rfl := l3.out (by omega) (by simp)
        go_wp2_with fail
        refine (cf3.on _).mono ?_
        rintro e w3 ⟨rfl, hb3⟩
        replace gx := Lib.hid (isN_of hb3 gx.out)
        replace gy := Lib.hid (isN_of hb3 gy.out)
        replace hb := Lib.hid (hb.out.trans (hb3.mono hs))
        clear hs hb3
        have hs := hb.out.size
        clear cx0 cx1 cx2
        go_wp2_with fail
        go_meet
        exact ⟨rfl, gx.out, gy.out, hb.out⟩
    · skip
      go_wp2_with fail
      go_meet
      exact ⟨rfl, gx.out, gy.out, hb.out⟩
    · skip
      go_wp2_with fail
      go_meet
      exact ⟨rfl, gx.out, gy.out, hb.out⟩
  obtain ⟨rfl, gx0, gy0, hb0⟩ := hcut
  clear hs hb gx gy
  have gx := Lib.hid gx0
  have gy := Lib.hid gy0
  have hb := Lib.hid hb0
  clear hb0 gx0 gy0
  have hs := hb.out.size
  replace hsz := hsz.out
  replace du := du.out
  replace dv := dv.out
  replace hb := Lib.hid (below_drewed hb.out)
  clear hs
  have hs := hb.out.size
  obtain ⟨cx0, cx1, cx2⟩ := gx.out.all
  obtain ⟨cy0, cy1, cy2⟩ := gy.out.all
  dsimp only at cx0 cx1 cx2 cy0 cy1 cy2
  go_wp2_with fail
  refine wp_region_held_at (S := fun w1 => w1.cell? ⟨w.heap.size, 0, none⟩ = some (.bool xn) ∧ w1.cell? ⟨w.heap.size, 1, none⟩ = some (.int .u64 xh) ∧ w1.cell? ⟨w.heap.size, 2, none⟩ = some (.int .u64 xl) ∧ w1.cell? ⟨w.heap.size + 1, 0, none⟩ = some (.bool yn) ∧ w1.cell? ⟨w.heap.size + 1, 1, none⟩ = some (.int .u64 yh) ∧ w1.cell? ⟨w.heap.size + 1, 2, none⟩ = some (.int .u64 yl)) 30 rfl (by kernel_rfl) (by go_keep) (fun hH => ?_)
  refine wpAnyH_take (i := 0) (v := ?_) rfl (by decide +kernel) (by decide +kernel) (by decide +kernel) (fun _ _ _ h => h) (Or.inl ⟨by rfl, ?_⟩) (by assumption) ?_
  rotate_left
  · intro w1 hSw; (try dsimp only at hSw); (try simp only [List.getElem_toArray, List.getElem_cons_zero]); go_simp; try with_reducible rfl
  try simp only [List.getElem_toArray, List.getElem_cons_zero, Act.put, List.setIfInBounds_toArray, List.set_cons_zero, List.set_cons_succ]
  refine wpAnyH_ready (rs := [1]) (by decide +kernel) (by simp) ?_
  refine AllReadyH.cons rfl (fun K hK => ?_) AllReadyH.nil
  (try simp only [List.getElem_toArray, List.getElem_cons_zero, List.getElem_cons_succ])
  go_simp
  refine (cs.on _).mono ?_
  rintro e wr ⟨rfl, hbr⟩
  have hb2 := Lib.hid (hb.out.trans (hbr.mono hs))
  clear hb hs
  have hb := hb2
  clear hb2
  have hs := hb.out.size
  have gg := Lib.hid (isN_of hbr gx.out)
  clear gx
  have gx := gg
  clear gg
  have gg := Lib.hid (isN_of hbr gy.out)
  clear gy
  have gy := gg
  clear gg
  clear hH hbr cx0 cx1 cx2 cy0 cy1 cy2
  obtain ⟨cx0, cx1, cx2⟩ := gx.out.all
  obtain ⟨cy0, cy1, cy2⟩ := gy.out.all
  dsimp only at cx0 cx1 cx2 cy0 cy1 cy2
  go_simp
  refine hK.out _ _ (by go_keep) (fun hH => ?_)
  clear hK K
  try simp only [List.getElem_toArray, List.getElem_cons_zero, List.getElem_cons_succ, Act.put, List.setIfInBounds_toArray, List.set_cons_zero, List.set_cons_succ]
  refine wpAnyH_take (i := 2) (v := ?_) rfl (by decide +kernel) (by decide +kernel) (by decide +kernel) (fun _ _ _ h => h) (Or.inl ⟨by rfl, ?_⟩) (by assumption) ?_
  rotate_left
  · intro w1 hSw; (try dsimp only at hSw); (try simp only [List.getElem_toArray, List.getElem_cons_zero, List.getElem_cons_succ]); go_simp; try with_reducible rfl
  try simp only [List.getElem_toArray, List.getElem_cons_zero, List.getElem_cons_succ, Act.put, List.setIfInBounds_toArray, List.set_cons_zero, List.set_cons_succ]
  refine wpAnyH_take (i := 3) (v := ?_) rfl (by decide +kernel) (by decide +kernel) (by decide +kernel) (fun _ _ _ h => h) (Or.inl ⟨by rfl, ?_⟩) (by assumption) ?_
  rotate_left
  · intro w1 hSw; (try dsimp only at hSw); (try simp only [List.getElem_toArray, List.getElem_cons_zero, List.getElem_cons_succ]); go_simp; try with_reducible rfl
  try simp only [List.getElem_toArray, List.getElem_cons_zero, List.getElem_cons_succ, Act.put, List.setIfInBounds_toArray, List.set_cons_zero, List.set_cons_succ]
  refine wpAnyH_take (i := 4) (v := ?_) rfl (by decide +kernel) (by decide +kernel) (by decide +kernel) (fun _ _ _ h => h) (Or.inl ⟨by rfl, ?_⟩) (by assumption) ?_
  rotate_left
  · intro w1 hSw; (try dsimp only at hSw); (try simp only [List.getElem_toArray, List.getElem_cons_zero, List.getElem_cons_succ]); go_simp; try with_reducible rfl
  try simp only [List.getElem_toArray, List.getElem_cons_zero, List.getElem_cons_succ, Act.put, List.setIfInBounds_toArray, List.set_cons_zero, List.set_cons_succ]
  refine wpAnyH_ready (rs := [5]) (by decide +kernel) (by simp) ?_
  refine AllReadyH.cons rfl (fun K hK => ?_) AllReadyH.nil
  (try simp only [List.getElem_toArray, List.getElem_cons_zero, List.getElem_cons_succ])
  go_simp
  refine (fx.on _).mono ?_
  rintro e wr ⟨rfl, hbr⟩
  have hb2 := Lib.hid (hb.out.trans (hbr.mono hs))
  clear hb hs
  have hb := hb2
  clear hb2
  have hs := hb.out.size
  have gg := Lib.hid (isN_of hbr gx.out)
  clear gx
  have gx := gg
  clear gg
  have gg := Lib.hid (isN_of hbr gy.out)
  clear gy
  have gy := gg
  clear gg
  clear hH hbr cx0 cx1 cx2 cy0 cy1 cy2
  obtain ⟨cx0, cx1, cx2⟩ := gx.out.all
  obtain ⟨cy0, cy1, cy2⟩ := gy.out.all
  dsimp only at cx0 cx1 cx2 cy0 cy1 cy2
  go_simp
  refine hK.out _ _ (by go_keep) (fun hH => ?_)
  clear hK K
  try simp only [List.getElem_toArray, List.getElem_cons_zero, List.getElem_cons_succ, Act.put, List.setIfInBounds_toArray, List.set_cons_zero, List.set_cons_succ]
  refine wpAnyH_take (i := 6) (v := ?_) rfl (by decide +kernel) (by decide +kernel) (by decide +kernel) (fun _ _ _ h => h) (Or.inl ⟨by rfl, ?_⟩) (by assumption) ?_
  rotate_left
  · intro w1 hSw; (try dsimp only at hSw); (try simp only [List.getElem_toArray, List.getElem_cons_zero, List.getElem_cons_succ]); go_simp; try with_reducible rfl
  try simp only [List.getElem_toArray, List.getElem_cons_zero, List.getElem_cons_succ, Act.put, List.setIfInBounds_toArray, List.set_cons_zero, List.set_cons_succ]
  refine wpAnyH_take (i := 7) (v := ?_) rfl (by decide +kernel) (by decide +kernel) (by decide +kernel) (fun _ _ _ h => h) (Or.inl ⟨by rfl, ?_⟩) (by assumption) ?_
  rotate_left
  · intro w1 hSw; (try dsimp only at hSw); (try simp only [List.getElem_toArray, List.getElem_cons_zero, List.getElem_cons_succ]); go_simp; try with_reducible rfl
  try simp only [List.getElem_toArray, List.getElem_cons_zero, List.getElem_cons_succ, Act.put, List.setIfInBounds_toArray, List.set_cons_zero, List.set_cons_succ]
  refine wpAnyH_take (i := 8) (v := ?_) rfl (by decide +kernel) (by decide +kernel) (by decide +kernel) (fun _ _ _ h => h) (Or.inl ⟨by rfl, ?_⟩) (by assumption) ?_
  rotate_left
  · intro w1 hSw; (try dsimp only at hSw); (try simp only [List.getElem_toArray, List.getElem_cons_zero, List.getElem_cons_succ]); go_simp; try with_reducible rfl
  try simp only [List.getElem_toArray, List.getElem_cons_zero, List.getElem_cons_succ, Act.put, List.setIfInBounds_toArray, List.set_cons_zero, List.set_cons_succ]
  refine wpAnyH_take (i := 9) (v := ?_) rfl (by decide +kernel) (by decide +kernel) (by decide +kernel) (fun _ _ _ h => h) (Or.inl ⟨by rfl, ?_⟩) (by assumption) ?_
  rotate_left
  · intro w1 hSw; (try dsimp only at hSw); (try simp only [List.getElem_toArray, List.getElem_cons_zero, List.getElem_cons_succ]); go_simp; try with_reducible rfl
  try simp only [List.getElem_toArray, List.getElem_cons_zero, List.getElem_cons_succ, Act.put, List.setIfInBounds_toArray, List.set_cons_zero, List.set_cons_succ]
  refine wpAnyH_ready (rs := [10]) (by decide +kernel) (by simp) ?_
  refine AllReadyH.cons rfl (fun K hK => ?_) AllReadyH.nil
  (try simp only [List.getElem_toArray, List.getElem_cons_zero, List.getElem_cons_succ])
  go_simp
  refine (fy.on _).mono ?_
  rintro e wr ⟨rfl, hbr⟩
  have hb2 := Lib.hid (hb.out.trans (hbr.mono hs))
  clear hb hs
  have hb := hb2
  clear hb2
  have hs := hb.out.size
  have gg := Lib.hid (isN_of hbr gx.out)
  clear gx
  have gx := gg
  clear gg
  have gg := Lib.hid (isN_of hbr gy.out)
  clear gy
  have gy := gg
  clear gg
  clear hH hbr cx0 cx1 cx2 cy0 cy1 cy2
  obtain ⟨cx0, cx1, cx2⟩ := gx.out.all
  obtain ⟨cy0, cy1, cy2⟩ := gy.out.all
  dsimp only at cx0 cx1 cx2 cy0 cy1 cy2
  go_simp
  refine hK.out _ _ (by go_keep) (fun hH => ?_)
  clear hK K
  try simp only [List.getElem_toArray, List.getElem_cons_zero, List.getElem_cons_succ, Act.put, List.setIfInBounds_toArray, List.set_cons_zero, List.set_cons_succ]
  refine wpAnyH_take (i := 11) (v := ?_) rfl (by decide +kernel) (by decide +kernel) (by decide +kernel) (fun _ _ _ h => h) (Or.inl ⟨by rfl, ?_⟩) (by assumption) ?_
  rotate_left
  · intro w1 hSw; (try dsimp only at hSw); (try simp only [List.getElem_toArray, List.getElem_cons_zero, List.getElem_cons_succ]); go_simp; try with_reducible rfl
  try simp only [List.getElem_toArray, List.getElem_cons_zero, List.getElem_cons_succ, Act.put, List.setIfInBounds_toArray, List.set_cons_zero, List.set_cons_succ]
  refine wpAnyH_take (i := 12) (v := ?_) rfl (by decide +kernel) (by decide +kernel) (by decide +kernel) (fun _ _ _ h => h) (Or.inl ⟨by rfl, ?_⟩) (by assumption) ?_
  rotate_left
  · intro w1 hSw; (try dsimp only at hSw); (try simp only [List.getElem_toArray, List.getElem_cons_zero, List.getElem_cons_succ]); go_simp; try with_reducible rfl
  try simp only [List.getElem_toArray, List.getElem_cons_zero, List.getElem_cons_succ, Act.put, List.setIfInBounds_toArray, List.set_cons_zero, List.set_cons_succ]
  refine wpAnyH_take (i := 13) (v := ?_) rfl (by decide +kernel) (by decide +kernel) (by decide +kernel) (fun _ _ _ h => h) (Or.inl ⟨by rfl, ?_⟩) (by assumption) ?_
  rotate_left
  · intro w1 hSw; (try dsimp only at hSw); (try simp only [List.getElem_toArray, List.getElem_cons_zero, List.getElem_cons_succ]); go_simp; try with_reducible rfl
  try simp only [List.getElem_toArray, List.getElem_cons_zero, List.getElem_cons_succ, Act.put, List.setIfInBounds_toArray, List.set_cons_zero, List.set_cons_succ]
  refine wpAnyH_take (i := 14) (v := ?_) rfl (by decide +kernel) (by decide +kernel) (by decide +kernel) (fun _ _ _ h => h) (Or.inl ⟨by rfl, ?_⟩) (by assumption) ?_
  rotate_left
  · intro w1 hSw; (try dsimp only at hSw); (try simp only [List.getElem_toArray, List.getElem_cons_zero, List.getElem_cons_succ]); go_simp; try with_reducible rfl
  try simp only [List.getElem_toArray, List.getElem_cons_zero, List.getElem_cons_succ, Act.put, List.setIfInBounds_toArray, List.set_cons_zero, List.set_cons_succ]
  refine wpAnyH_take (i := 15) (v := ?_) rfl (by decide +kernel) (by decide +kernel) (by decide +kernel) (fun _ _ _ h => h) (Or.inl ⟨by rfl, ?_⟩) (by assumption) ?_
  rotate_left
  · intro w1 hSw; (try dsimp only at hSw); (try simp only [List.getElem_toArray, List.getElem_cons_zero, List.getElem_cons_succ]); go_simp; try with_reducible rfl
  try simp only [List.getElem_toArray, List.getElem_cons_zero, List.getElem_cons_succ, Act.put, List.setIfInBounds_toArray, List.set_cons_zero, List.set_cons_succ]
  refine wpAnyH_ready (rs := [16]) (by decide +kernel) (by simp) ?_
  refine AllReadyH.cons rfl (fun K hK => ?_) AllReadyH.nil
  (try simp only [List.getElem_toArray, List.getElem_cons_zero, List.getElem_cons_succ])
  go_simp
  refine (cu.on _).mono ?_
  rintro e wr ⟨rfl, hbr⟩
  have hb2 := Lib.hid (hb.out.trans (hbr.mono hs))
  clear hb hs
  have hb := hb2
  clear hb2
  have hs := hb.out.size
  have gg := Lib.hid (isN_of hbr gx.out)
  clear gx
  have gx := gg
  clear gg
  have gg := Lib.hid (isN_of hbr gy.out)
  clear gy
  have gy := gg
  clear gg
  clear hH hbr cx0 cx1 cx2 cy0 cy1 cy2
  obtain ⟨cx0, cx1, cx2⟩ := gx.out.all
  obtain ⟨cy0, cy1, cy2⟩ := gy.out.all
  dsimp only at cx0 cx1 cx2 cy0 cy1 cy2
  go_simp
  refine hK.out _ _ (by go_keep) (fun hH => ?_)
  clear hK K
  try simp only [List.getElem_toArray, List.getElem_cons_zero, List.getElem_cons_succ, Act.put, List.setIfInBounds_toArray, List.set_cons_zero, List.set_cons_succ]
  refine wpAnyH_take (i := 17) (v := ?_) rfl (by decide +kernel) (by decide +kernel) (by decide +kernel) (fun _ _ _ h => h) (Or.inl ⟨by rfl, ?_⟩) (by assumption) ?_
  rotate_left
  · intro w1 hSw; (try dsimp only at hSw); (try simp only [List.getElem_toArray, List.getElem_cons_zero, List.getElem_cons_succ]); go_simp; try with_reducible rfl
  try simp only [List.getElem_toArray, List.getElem_cons_zero, List.getElem_cons_succ, Act.put, List.setIfInBounds_toArray, List.set_cons_zero, List.set_cons_succ]
  refine wpAnyH_take (i := 18) (v := ?_) rfl (by decide +kernel) (by decide +kernel) (by decide +kernel) (fun _ _ _ h => h) (Or.inl ⟨by rfl, ?_⟩) (by assumption) ?_
  rotate_left
  · intro w1 hSw; (try dsimp only at hSw); (try simp only [List.getElem_toArray, List.getElem_cons_zero, List.getElem_cons_succ]); go_simp; try with_reducible rfl
  try simp only [List.getElem_toArray, List.getElem_cons_zero, List.getElem_cons_succ, Act.put, List.setIfInBounds_toArray, List.set_cons_zero, List.set_cons_succ]
  refine wpAnyH_take (i := 19) (v := ?_) rfl (by decide +kernel) (by decide +kernel) (by decide +kernel) (fun _ _ _ h => h) (Or.inl ⟨by rfl, ?_⟩) (by assumption) ?_
  rotate_left
  · intro w1 hSw; (try dsimp only at hSw); (try simp only [List.getElem_toArray, List.getElem_cons_zero, List.getElem_cons_succ]); go_simp; try with_reducible rfl
  try simp only [List.getElem_toArray, List.getElem_cons_zero, List.getElem_cons_succ, Act.put, List.setIfInBounds_toArray, List.set_cons_zero, List.set_cons_succ]
  refine wpAnyH_take (i := 20) (v := ?_) rfl (by decide +kernel) (by decide +kernel) (by decide +kernel) (fun _ _ _ h => h) (Or.inl ⟨by rfl, ?_⟩) (by assumption) ?_
  rotate_left
  · intro w1 hSw; (try dsimp only at hSw); (try simp only [List.getElem_toArray, List.getElem_cons_zero, List.getElem_cons_succ]); go_simp; try with_reducible rfl
  try simp only [List.getElem_toArray, List.getElem_cons_zero, List.getElem_cons_succ, Act.put, List.setIfInBounds_toArray, List.set_cons_zero, List.set_cons_succ]
  refine wpAnyH_take (i := 21) (v := ?_) rfl (by decide +kernel) (by decide +kernel) (by decide +kernel) (fun _ _ _ h => h) (Or.inl ⟨by rfl, ?_⟩) (by assumption) ?_
  rotate_left
  · intro w1 hSw; (try dsimp only at hSw); (try simp only [List.getElem_toArray, List.getElem_cons_zero, List.getElem_cons_succ]); go_simp; try with_reducible rfl
  try simp only [List.getElem_toArray, List.getElem_cons_zero, List.getElem_cons_succ, Act.put, List.setIfInBounds_toArray, List.set_cons_zero, List.set_cons_succ]
  refine wpAnyH_take (i := 23) (v := ?_) rfl (by decide +kernel) (by decide +kernel) (by decide +kernel) (fun _ _ _ h => h) (Or.inl ⟨by rfl, ?_⟩) (by assumption) ?_
  rotate_left
  · intro w1 hSw; (try dsimp only at hSw); (try simp only [List.getElem_toArray, List.getElem_cons_zero, List.getElem_cons_succ]); go_simp; try with_reducible rfl
  try simp only [List.getElem_toArray, List.getElem_cons_zero, List.getElem_cons_succ, Act.put, List.setIfInBounds_toArray, List.set_cons_zero, List.set_cons_succ]
  refine wpAnyH_take (i := 24) (v := ?_) rfl (by decide +kernel) (by decide +kernel) (by decide +kernel) (fun _ _ _ h => h) (Or.inl ⟨by rfl, ?_⟩) (by assumption) ?_
  rotate_left
  · intro w1 hSw; (try dsimp only at hSw); (try simp only [List.getElem_toArray, List.getElem_cons_zero, List.getElem_cons_succ]); go_simp; try with_reducible rfl
  try simp only [List.getElem_toArray, List.getElem_cons_zero, List.getElem_cons_succ, Act.put, List.setIfInBounds_toArray, List.set_cons_zero, List.set_cons_succ]
  refine wpAnyH_ready (rs := [22]) (by decide +kernel) (by simp) ?_
  refine AllReadyH.cons rfl (fun K hK => ?_) AllReadyH.nil
  (try simp only [List.getElem_toArray, List.getElem_cons_zero, List.getElem_cons_succ])
  go_simp
  refine (cx.on _).mono ?_
  rintro e wr ⟨rfl, hbr⟩
  have hb2 := Lib.hid (hb.out.trans (hbr.mono hs))
  clear hb hs
  have hb := hb2
  clear hb2
  have hs := hb.out.size
  have gg := Lib.hid (isN_of hbr gx.out)
  clear gx
  have gx := gg
  clear gg
  have gg := Lib.hid (isN_of hbr gy.out)
  clear gy
  have gy := gg
  clear gg
  clear hH hbr cx0 cx1 cx2 cy0 cy1 cy2
  obtain ⟨cx0, cx1, cx2⟩ := gx.out.all
  obtain ⟨cy0, cy1, cy2⟩ := gy.out.all
  dsimp only at cx0 cx1 cx2 cy0 cy1 cy2
  go_simp
  refine hK.out _ _ (by go_keep) (fun hH => ?_)
  clear hK K
  try simp only [List.getElem_toArray, List.getElem_cons_zero, List.getElem_cons_succ, Act.put, List.setIfInBounds_toArray, List.set_cons_zero, List.set_cons_succ]
  refine wpAnyH_ready (rs := [25]) (by decide +kernel) (by simp) ?_
  refine AllReadyH.cons rfl (fun K hK => ?_) AllReadyH.nil
  (try simp only [List.getElem_toArray, List.getElem_cons_zero, List.getElem_cons_succ])
  go_simp
  refine (cy.on _).mono ?_
  rintro e wr ⟨rfl, hbr⟩
  have hb2 := Lib.hid (hb.out.trans (hbr.mono hs))
  clear hb hs
  have hb := hb2
  clear hb2
  have hs := hb.out.size
  have gg := Lib.hid (isN_of hbr gx.out)
  clear gx
  have gx := gg
  clear gg
  have gg := Lib.hid (isN_of hbr gy.out)
  clear gy
  have gy := gg
  clear gg
  clear hH hbr cx0 cx1 cx2 cy0 cy1 cy2
  obtain ⟨cx0, cx1, cx2⟩ := gx.out.all
  obtain ⟨cy0, cy1, cy2⟩ := gy.out.all
  dsimp only at cx0 cx1 cx2 cy0 cy1 cy2
  go_simp
  refine hK.out _ _ (by go_keep) (fun hH => ?_)
  clear hK K
  try simp only [List.getElem_toArray, List.getElem_cons_zero, List.getElem_cons_succ, Act.put, List.setIfInBounds_toArray, List.set_cons_zero, List.set_cons_succ]
  refine wpAnyH_ready (rs := [26]) (by decide +kernel) (by simp) ?_
  refine AllReadyH.cons rfl (fun K hK => ?_) AllReadyH.nil
  (try simp only [List.getElem_toArray, List.getElem_cons_zero, List.getElem_cons_succ])
  go_simp
  refine (cv.on _).mono ?_
  rintro e wr ⟨rfl, hbr⟩
  have hb2 := Lib.hid (hb.out.trans (hbr.mono hs))
  clear hb hs
  have hb := hb2
  clear hb2
  have hs := hb.out.size
  have gg := Lib.hid (isN_of hbr gx.out)
  clear gx
  have gx := gg
  clear gg
  have gg := Lib.hid (isN_of hbr gy.out)
  clear gy
  have gy := gg
  clear gg
  clear hH hbr cx0 cx1 cx2 cy0 cy1 cy2
  obtain ⟨cx0, cx1, cx2⟩ := gx.out.all
  obtain ⟨cy0, cy1, cy2⟩ := gy.out.all
  dsimp only at cx0 cx1 cx2 cy0 cy1 cy2
  go_simp
  refine hK.out _ _ (by go_keep) (fun hH => ?_)
  clear hK K
  try simp only [List.getElem_toArray, List.getElem_cons_zero, List.getElem_cons_succ, Act.put, List.setIfInBounds_toArray, List.set_cons_zero, List.set_cons_succ]
  refine wpAnyH_take (i := 27) (v := ?_) rfl (by decide +kernel) (by decide +kernel) (by decide +kernel) (fun _ _ _ h => h) (Or.inl ⟨by rfl, ?_⟩) (by assumption) ?_
  rotate_left
  · intro w1 hSw; (try dsimp only at hSw); (try simp only [List.getElem_toArray, List.getElem_cons_zero, List.getElem_cons_succ]); go_simp; try with_reducible rfl
  try simp only [List.getElem_toArray, List.getElem_cons_zero, List.getElem_cons_succ, Act.put, List.setIfInBounds_toArray, List.set_cons_zero, List.set_cons_succ]
  refine wpAnyH_take (i := 28) (v := ?_) rfl (by decide +kernel) (by decide +kernel) (by decide +kernel) (fun _ _ _ h => h) (Or.inl ⟨by rfl, ?_⟩) (by assumption) ?_
  rotate_left
  · intro w1 hSw; (try dsimp only at hSw); (try simp only [List.getElem_toArray, List.getElem_cons_zero, List.getElem_cons_succ]); go_simp; try with_reducible rfl
  try simp only [List.getElem_toArray, List.getElem_cons_zero, List.getElem_cons_succ, Act.put, List.setIfInBounds_toArray, List.set_cons_zero, List.set_cons_succ]
  refine wpAnyH_take (i := 29) (v := ?_) rfl (by decide +kernel) (by decide +kernel) (by decide +kernel) (fun _ _ _ h => h) (Or.inl ⟨by rfl, ?_⟩) (by assumption) ?_
  rotate_left
  · intro w1 hSw; (try dsimp only at hSw); (try simp only [List.getElem_toArray, List.getElem_cons_zero, List.getElem_cons_succ]); go_simp; try with_reducible rfl
  try simp only [List.getElem_toArray, List.getElem_cons_zero, List.getElem_cons_succ, Act.put, List.setIfInBounds_toArray, List.set_cons_zero, List.set_cons_succ]
  refine wpAnyH_done (by decide +kernel) ?_ _
  clear hH
  go_wp2_with fail
  go_ret
  exact ⟨rfl, hb.out⟩
end Go.Proofs.Ytbfigpollacngaa
