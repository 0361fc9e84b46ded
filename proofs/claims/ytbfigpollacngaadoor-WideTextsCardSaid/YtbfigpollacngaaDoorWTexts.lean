/- the walk over WideTexts -/
import Derived.Test.YtbfigpollacngaaDoorNmQ
import Derived.Test.YtbfigpollacngaaDoorNmS
import Derived.Test.YtbfigpollacngaaDoorWvG
import Derived.Deep.Cut
namespace Go.Proofs.YtbfigpollacngaaDoor
open Go.RowKit
open Rf
open Wide

set_option maxRecDepth 100000 in
set_option maxHeartbeats 32000000 in
theorem texts_a (xn : Bool) (xh : Int) (xl : Int) (s : ByteArray) (n v : Int) (hs : s.size ≤ 100)  (cw : ∀ w : World, Calls Tryd.prog 9 #[] w fun e w' => e = .returned (.bool true) ∧ Below w.heap.size w w')
    (Yn : Bool) (Yh Yl Ye : Int) (kP : Ret 14 #[.string s] (.tuple #[wv ⟨Yn, Yh, Yl⟩, .int .i64 Ye])) (rP : Ret 15 #[.string s] (.tuple #[wv ⟨Yn, Yh, Yl⟩, .int .i64 Ye]))
    (t : ByteArray) (tX : Ret 16 #[wv ⟨xn, xh, xl⟩] (.string t)) (rT : Ret 17 #[wv ⟨xn, xh, xl⟩] (.string t))
    (sX : Ret 18 #[wv ⟨xn, xh, xl⟩] (.tuple #[.int .i64 0, .bool false])) (gX : Ret 19 #[wv ⟨xn, xh, xl⟩] (.bool false))
    (Mn : Bool) (Mh Ml c : Int) (oF : Ret 20 #[.int .i64 n] (wv ⟨Mn, Mh, Ml⟩)) (sN : Ret 18 #[wv ⟨Mn, Mh, Ml⟩] (.tuple #[.int .i64 n, .bool true]))
    (wW : Ret 21 #[.int .u64 v] (wv ⟨false, 0, v⟩)) (gN : Ret 22 #[wv ⟨Mn, Mh, Ml⟩] (.int .i64 c)) (cN : Ret 23 #[.int .i64 n] (.int .i64 c)) :
    Ret 5 #[wv ⟨xn, xh, xl⟩, .string s, .int .i64 n, .int .u64 v] (.bool true) := fun w => by
  unfold wv at *
  dsimp only at *
  have hle : ¬ (100 : Int) < (s.size : Int) := by omega
  have hte : (t.toList == t.toList) = true := beq_self_eq_true _
  replace cw := Lib.hid cw
  replace kP := Lib.hid kP
  replace rP := Lib.hid rP
  replace tX := Lib.hid tX
  replace rT := Lib.hid rT
  replace sX := Lib.hid sX
  replace gX := Lib.hid gX
  replace oF := Lib.hid oF
  replace sN := Lib.hid sN
  replace wW := Lib.hid wW
  replace gN := Lib.hid gN
  replace cN := Lib.hid cN
  go_enter Tryd.func5, Tryd.ntmps5
  go_wp2_with fail
  refine (cw.out _).mono ?_
  rintro e w1 ⟨rfl, hb1⟩
  obtain ⟨gx, hb⟩ := one_new (x := ⟨xn, xh, xl⟩) hb1
  have hs := hb.size
  clear hb1
  replace gx := Lib.hid gx
  replace hb := Lib.hid hb
  obtain ⟨cx0, cx1, cx2⟩ := gx.out.all
  dsimp only at cx0 cx1 cx2
  go_wp2_with fail
  refine (kP.out.on _).mono ?_
  rintro e w2 ⟨rfl, hb2⟩
  replace gx := Lib.hid (isN_of hb2 gx.out)
  replace hb := Lib.hid (hb.out.trans (hb2.mono hs))
  clear hs hb2
  have hs := hb.out.size
  replace gx := Lib.hid (gx.out.alloc (oN ⟨Yn, Yh, Yl⟩))
  have gy := Lib.hid (IsN.new w2 ⟨Yn, Yh, Yl⟩)
  replace hb := Lib.hid (hb.out.alloc hs (oN ⟨Yn, Yh, Yl⟩))
  clear hs
  have hs := hb.out.size
  clear cx0 cx1 cx2
  obtain ⟨cx0, cx1, cx2⟩ := gx.out.all
  dsimp only at cx0 cx1 cx2
  go_wp2_with fail
  refine (rP.out.on _).mono ?_
  rintro e w3 ⟨rfl, hb3⟩
  replace gx := Lib.hid (isN_of hb3 gx.out)
  replace gy := Lib.hid (isN_of hb3 gy.out)
  replace hb := Lib.hid (hb.out.trans (hb3.mono hs))
  clear hs hb3
  have hs := hb.out.size
  replace gx := Lib.hid (gx.out.alloc (oN ⟨Yn, Yh, Yl⟩))
  replace gy := Lib.hid (gy.out.alloc (oN ⟨Yn, Yh, Yl⟩))
  have gz := Lib.hid (IsN.new w3 ⟨Yn, Yh, Yl⟩)
  replace hb := Lib.hid (hb.out.alloc hs (oN ⟨Yn, Yh, Yl⟩))
  clear hs
  have hs := hb.out.size
  replace hb := Lib.hid (below_drewed hb.out)
  clear hs
  have hs := hb.out.size
  clear cx0 cx1 cx2
  obtain ⟨cx0, cx1, cx2⟩ := gx.out.all
  obtain ⟨cy0, cy1, cy2⟩ := gy.out.all
  obtain ⟨cz0, cz1, cz2⟩ := gz.out.all
  dsimp only at cx0 cx1 cx2 cy0 cy1 cy2 cz0 cz1 cz2
  have mk0 := Lib.hid trivial
  have mk1 := Lib.hid trivial
  go_wp2_with fail
  go_region_held3 (fun w1 => w1.cell? ⟨w.heap.size, 0, none⟩ = some (.bool xn) ∧ w1.cell? ⟨w.heap.size, 1, none⟩ = some (.int .u64 xh) ∧ w1.cell? ⟨w.heap.size, 2, none⟩ = some (.int .u64 xl) ∧ w1.cell? ⟨w2.heap.size, 0, none⟩ = some (.bool Yn) ∧ w1.cell? ⟨w2.heap.size, 1, none⟩ = some (.int .u64 Yh) ∧ w1.cell? ⟨w2.heap.size, 2, none⟩ = some (.int .u64 Yl) ∧ w1.cell? ⟨w3.heap.size, 0, none⟩ = some (.bool Yn) ∧ w1.cell? ⟨w3.heap.size, 1, none⟩ = some (.int .u64 Yh) ∧ w1.cell? ⟨w3.heap.size, 2, none⟩ = some (.int .u64 Yl)) (go_keep)
    (first
      | (go_at_call 16
         clear mk0
         refine (tX.out.on _).mono ?_
         rintro e wr ⟨rfl, hbr⟩
         have hb2 := Lib.hid (hb.out.trans (hbr.mono hs))
         clear hb hs
         have hb := hb2
         clear hb2
         have hs := hb.out.size
         have gg := Lib.hid (isN_of hbr gx.out)
         clear gx
         have gx := gg
         clear gg
         have gg := Lib.hid (isN_of hbr gy.out)
         clear gy
         have gy := gg
         clear gg
         have gg := Lib.hid (isN_of hbr gz.out)
         clear gz
         have gz := gg
         clear gg
         clear hbr cx0 cx1 cx2 cy0 cy1 cy2 cz0 cz1 cz2
         obtain ⟨cx0, cx1, cx2⟩ := gx.out.all
         obtain ⟨cy0, cy1, cy2⟩ := gy.out.all
         obtain ⟨cz0, cz1, cz2⟩ := gz.out.all
         dsimp only at cx0 cx1 cx2 cy0 cy1 cy2 cz0 cz1 cz2)
      | (go_at_call 17
         clear mk1
         refine (rT.out.on _).mono ?_
         rintro e wr ⟨rfl, hbr⟩
         have hb2 := Lib.hid (hb.out.trans (hbr.mono hs))
         clear hb hs
         have hb := hb2
         clear hb2
         have hs := hb.out.size
         have gg := Lib.hid (isN_of hbr gx.out)
         clear gx
         have gx := gg
         clear gg
         have gg := Lib.hid (isN_of hbr gy.out)
         clear gy
         have gy := gg
         clear gg
         have gg := Lib.hid (isN_of hbr gz.out)
         clear gz
         have gz := gg
         clear gg
         clear hbr cx0 cx1 cx2 cy0 cy1 cy2 cz0 cz1 cz2
         obtain ⟨cx0, cx1, cx2⟩ := gx.out.all
         obtain ⟨cy0, cy1, cy2⟩ := gy.out.all
         obtain ⟨cz0, cz1, cz2⟩ := gz.out.all
         dsimp only at cx0 cx1 cx2 cy0 cy1 cy2 cz0 cz1 cz2))
  all_goals (
    clear gy gz
    clear cy0 cy1 cy2 cz0 cz1 cz2 cx0 cx1 cx2
    (try clear mk0)
    (try clear mk1)
    obtain ⟨cx0, cx1, cx2⟩ := gx.out.all
    dsimp only at cx0 cx1 cx2
    go_wp2_with fail
    refine (sX.out.on _).mono ?_
    rintro e w4 ⟨rfl, hb4⟩
    replace gx := Lib.hid (isN_of hb4 gx.out)
    replace hb := Lib.hid (hb.out.trans (hb4.mono hs))
    clear hs hb4
    have hs := hb.out.size
    clear cx0 cx1 cx2
    obtain ⟨cx0, cx1, cx2⟩ := gx.out.all
    dsimp only at cx0 cx1 cx2
    go_wp2_with fail
    refine (gX.out.on _).mono ?_
    rintro e w5 ⟨rfl, hb5⟩
    replace gx := Lib.hid (isN_of hb5 gx.out)
    replace hb := Lib.hid (hb.out.trans (hb5.mono hs))
    clear hs hb5
    have hs := hb.out.size
    replace hb := Lib.hid (below_drewed hb.out)
    clear hs
    have hs := hb.out.size
    clear cx0 cx1 cx2
    obtain ⟨cx0, cx1, cx2⟩ := gx.out.all
    dsimp only at cx0 cx1 cx2
    go_wp2_with fail
    refine wp_region_held_at (S := fun w1 => w1.cell? ⟨w.heap.size, 0, none⟩ = some (.bool xn) ∧ w1.cell? ⟨w.heap.size, 1, none⟩ = some (.int .u64 xh) ∧ w1.cell? ⟨w.heap.size, 2, none⟩ = some (.int .u64 xl)) 20 rfl (by kernel_rfl) (by go_keep) (fun hH => ?_)
    refine wpAnyH_take (i := 0) (v := ?_) rfl (by decide +kernel) (by decide +kernel) (by decide +kernel) (fun _ _ _ h => h) (Or.inl ⟨by rfl, ?_⟩) (by assumption) ?_
    rotate_left
    · intro w1 hSw; (try dsimp only at hSw); (try simp only [List.getElem_toArray, List.getElem_cons_zero]); go_simp; try with_reducible rfl
    try simp only [List.getElem_toArray, List.getElem_cons_zero, Act.put, List.setIfInBounds_toArray, List.set_cons_zero, List.set_cons_succ]
    refine wpAnyH_take (i := 1) (v := ?_) rfl (by decide +kernel) (by decide +kernel) (by decide +kernel) (fun _ _ _ h => h) (Or.inl ⟨by rfl, ?_⟩) (by assumption) ?_
    rotate_left
    · intro w1 hSw; (try dsimp only at hSw); (try simp only [List.getElem_toArray, List.getElem_cons_zero, List.getElem_cons_succ]); go_simp; try with_reducible rfl
    try simp only [List.getElem_toArray, List.getElem_cons_zero, List.getElem_cons_succ, Act.put, List.setIfInBounds_toArray, List.set_cons_zero, List.set_cons_succ]
    refine wpAnyH_take (i := 2) (v := ?_) rfl (by decide +kernel) (by decide +kernel) (by decide +kernel) (fun _ _ _ h => h) (Or.inl ⟨by rfl, ?_⟩) (by assumption) ?_
    rotate_left
    · intro w1 hSw; (try dsimp only at hSw); (try simp only [List.getElem_toArray, List.getElem_cons_zero, List.getElem_cons_succ]); go_simp; try with_reducible rfl
    try simp only [List.getElem_toArray, List.getElem_cons_zero, List.getElem_cons_succ, Act.put, List.setIfInBounds_toArray, List.set_cons_zero, List.set_cons_succ]
    refine wpAnyH_take (i := 3) (v := ?_) rfl (by decide +kernel) (by decide +kernel) (by decide +kernel) (fun _ _ _ h => h) (Or.inl ⟨by rfl, ?_⟩) (by assumption) ?_
    rotate_left
    · intro w1 hSw; (try dsimp only at hSw); (try simp only [List.getElem_toArray, List.getElem_cons_zero, List.getElem_cons_succ]); go_simp; try with_reducible rfl
    try simp only [List.getElem_toArray, List.getElem_cons_zero, List.getElem_cons_succ, Act.put, List.setIfInBounds_toArray, List.set_cons_zero, List.set_cons_succ]
    refine wpAnyH_take (i := 4) (v := ?_) rfl (by decide +kernel) (by decide +kernel) (by decide +kernel) (fun _ _ _ h => h) (Or.inl ⟨by rfl, ?_⟩) (by assumption) ?_
    rotate_left
    · intro w1 hSw; (try dsimp only at hSw); (try simp only [List.getElem_toArray, List.getElem_cons_zero, List.getElem_cons_succ]); go_simp; try with_reducible rfl
    try simp only [List.getElem_toArray, List.getElem_cons_zero, List.getElem_cons_succ, Act.put, List.setIfInBounds_toArray, List.set_cons_zero, List.set_cons_succ]
    refine wpAnyH_take (i := 5) (v := ?_) rfl (by decide +kernel) (by decide +kernel) (by decide +kernel) (fun _ _ _ h => h) (Or.inl ⟨by rfl, ?_⟩) (by assumption) ?_
    rotate_left
    · intro w1 hSw; (try dsimp only at hSw); (try simp only [List.getElem_toArray, List.getElem_cons_zero, List.getElem_cons_succ]); go_simp; try with_reducible rfl
    try simp only [List.getElem_toArray, List.getElem_cons_zero, List.getElem_cons_succ, Act.put, List.setIfInBounds_toArray, List.set_cons_zero, List.set_cons_succ]
    refine wpAnyH_take (i := 6) (v := ?_) rfl (by decide +kernel) (by decide +kernel) (by decide +kernel) (fun _ _ _ h => h) (Or.inl ⟨by rfl, ?_⟩) (by assumption) ?_
    rotate_left
    · intro w1 hSw; (try dsimp only at hSw); (try simp only [List.getElem_toArray, List.getElem_cons_zero, List.getElem_cons_succ]); go_simp; try with_reducible rfl
    try simp only [List.getElem_toArray, List.getElem_cons_zero, List.getElem_cons_succ, Act.put, List.setIfInBounds_toArray, List.set_cons_zero, List.set_cons_succ]
    refine wpAnyH_take (i := 7) (v := ?_) rfl (by decide +kernel) (by decide +kernel) (by decide +kernel) (fun _ _ _ h => h) (Or.inl ⟨by rfl, ?_⟩) (by assumption) ?_
    rotate_left
    · intro w1 hSw; (try dsimp only at hSw); (try simp only [List.getElem_toArray, List.getElem_cons_zero, List.getElem_cons_succ]); go_simp; try with_reducible rfl
    try simp only [List.getElem_toArray, List.getElem_cons_zero, List.getElem_cons_succ, Act.put, List.setIfInBounds_toArray, List.set_cons_zero, List.set_cons_succ]
    refine wpAnyH_take (i := 8) (v := ?_) rfl (by decide +kernel) (by decide +kernel) (by decide +kernel) (fun _ _ _ h => h) (Or.inl ⟨by rfl, ?_⟩) (by assumption) ?_
    rotate_left
    · intro w1 hSw; (try dsimp only at hSw); (try simp only [List.getElem_toArray, List.getElem_cons_zero, List.getElem_cons_succ]); go_simp; try with_reducible rfl
    try simp only [List.getElem_toArray, List.getElem_cons_zero, List.getElem_cons_succ, Act.put, List.setIfInBounds_toArray, List.set_cons_zero, List.set_cons_succ]
    refine wpAnyH_take (i := 9) (v := ?_) rfl (by decide +kernel) (by decide +kernel) (by decide +kernel) (fun _ _ _ h => h) (Or.inl ⟨by rfl, ?_⟩) (by assumption) ?_
    rotate_left
    · intro w1 hSw; (try dsimp only at hSw); (try simp only [List.getElem_toArray, List.getElem_cons_zero, List.getElem_cons_succ]); go_simp; try with_reducible rfl
    try simp only [List.getElem_toArray, List.getElem_cons_zero, List.getElem_cons_succ, Act.put, List.setIfInBounds_toArray, List.set_cons_zero, List.set_cons_succ]
    refine wpAnyH_take (i := 10) (v := ?_) rfl (by decide +kernel) (by decide +kernel) (by decide +kernel) (fun _ _ _ h => h) (Or.inl ⟨by rfl, ?_⟩) (by assumption) ?_
    rotate_left
    · intro w1 hSw; (try dsimp only at hSw); (try simp only [List.getElem_toArray, List.getElem_cons_zero, List.getElem_cons_succ]); go_simp; try with_reducible rfl
    try simp only [List.getElem_toArray, List.getElem_cons_zero, List.getElem_cons_succ, Act.put, List.setIfInBounds_toArray, List.set_cons_zero, List.set_cons_succ]
    refine wpAnyH_take (i := 11) (v := ?_) rfl (by decide +kernel) (by decide +kernel) (by decide +kernel) (fun _ _ _ h => h) (Or.inl ⟨by rfl, ?_⟩) (by assumption) ?_
    rotate_left
    · intro w1 hSw; (try dsimp only at hSw); (try simp only [List.getElem_toArray, List.getElem_cons_zero, List.getElem_cons_succ]); go_simp; try with_reducible rfl
    try simp only [List.getElem_toArray, List.getElem_cons_zero, List.getElem_cons_succ, Act.put, List.setIfInBounds_toArray, List.set_cons_zero, List.set_cons_succ]
    refine wpAnyH_take (i := 12) (v := ?_) rfl (by decide +kernel) (by decide +kernel) (by decide +kernel) (fun _ _ _ h => h) (Or.inl ⟨by rfl, ?_⟩) (by assumption) ?_
    rotate_left
    · intro w1 hSw; (try dsimp only at hSw); (try simp only [List.getElem_toArray, List.getElem_cons_zero, List.getElem_cons_succ]); go_simp; try with_reducible rfl
    try simp only [List.getElem_toArray, List.getElem_cons_zero, List.getElem_cons_succ, Act.put, List.setIfInBounds_toArray, List.set_cons_zero, List.set_cons_succ]
    refine wpAnyH_take (i := 13) (v := ?_) rfl (by decide +kernel) (by decide +kernel) (by decide +kernel) (fun _ _ _ h => h) (Or.inl ⟨by rfl, ?_⟩) (by assumption) ?_
    rotate_left
    · intro w1 hSw; (try dsimp only at hSw); (try simp only [List.getElem_toArray, List.getElem_cons_zero, List.getElem_cons_succ]); go_simp; try with_reducible rfl
    try simp only [List.getElem_toArray, List.getElem_cons_zero, List.getElem_cons_succ, Act.put, List.setIfInBounds_toArray, List.set_cons_zero, List.set_cons_succ]
    refine wpAnyH_take (i := 14) (v := undef) rfl (by decide +kernel) (by decide +kernel) (by decide +kernel) (fun _ _ _ h => h) (Or.inr ⟨by rfl, rfl⟩) (by assumption) ?_
    try simp only [List.getElem_toArray, List.getElem_cons_zero, List.getElem_cons_succ, Act.put, List.setIfInBounds_toArray, List.set_cons_zero, List.set_cons_succ]
    refine wpAnyH_take (i := 15) (v := undef) rfl (by decide +kernel) (by decide +kernel) (by decide +kernel) (fun _ _ _ h => h) (Or.inr ⟨by rfl, rfl⟩) (by assumption) ?_
    try simp only [List.getElem_toArray, List.getElem_cons_zero, List.getElem_cons_succ, Act.put, List.setIfInBounds_toArray, List.set_cons_zero, List.set_cons_succ]
    refine wpAnyH_take (i := 16) (v := undef) rfl (by decide +kernel) (by decide +kernel) (by decide +kernel) (fun _ _ _ h => h) (Or.inr ⟨by rfl, rfl⟩) (by assumption) ?_
    try simp only [List.getElem_toArray, List.getElem_cons_zero, List.getElem_cons_succ, Act.put, List.setIfInBounds_toArray, List.set_cons_zero, List.set_cons_succ]
    refine wpAnyH_take (i := 17) (v := undef) rfl (by decide +kernel) (by decide +kernel) (by decide +kernel) (fun _ _ _ h => h) (Or.inr ⟨by rfl, rfl⟩) (by assumption) ?_
    try simp only [List.getElem_toArray, List.getElem_cons_zero, List.getElem_cons_succ, Act.put, List.setIfInBounds_toArray, List.set_cons_zero, List.set_cons_succ]
    refine wpAnyH_take (i := 18) (v := ?_) rfl (by decide +kernel) (by decide +kernel) (by decide +kernel) (fun _ _ _ h => h) (Or.inl ⟨by rfl, ?_⟩) (by assumption) ?_
    rotate_left
    · intro w1 hSw; (try dsimp only at hSw); (try simp only [List.getElem_toArray, List.getElem_cons_zero, List.getElem_cons_succ]); go_simp; try with_reducible rfl
    try simp only [List.getElem_toArray, List.getElem_cons_zero, List.getElem_cons_succ, Act.put, List.setIfInBounds_toArray, List.set_cons_zero, List.set_cons_succ]
    refine wpAnyH_take (i := 19) (v := ?_) rfl (by decide +kernel) (by decide +kernel) (by decide +kernel) (fun _ _ _ h => h) (Or.inl ⟨by rfl, ?_⟩) (by assumption) ?_
    rotate_left
    · intro w1 hSw; (try dsimp only at hSw); (try simp only [List.getElem_toArray, List.getElem_cons_zero, List.getElem_cons_succ]); go_simp; try with_reducible rfl
    try simp only [List.getElem_toArray, List.getElem_cons_zero, List.getElem_cons_succ, Act.put, List.setIfInBounds_toArray, List.set_cons_zero, List.set_cons_succ]
    refine wpAnyH_done (by decide +kernel) ?_ _
    clear hH
    clear cx0 cx1 cx2
    go_wp2_with fail
    refine (oF.out.on _).mono ?_
    rintro e w6 ⟨rfl, hb6⟩
    replace gx := Lib.hid (isN_of hb6 gx.out)
    replace hb := Lib.hid (hb.out.trans (hb6.mono hs))
    clear hs hb6
    have hs := hb.out.size
    go_wp2_with fail
    refine (sN.out.on _).mono ?_
    rintro e w7 ⟨rfl, hb7⟩
    replace gx := Lib.hid (isN_of hb7 gx.out)
    replace hb := Lib.hid (hb.out.trans (hb7.mono hs))
    clear hs hb7
    have hs := hb.out.size
    go_wp2_with fail
    refine (wW.out.on _).mono ?_
    rintro e w8 ⟨rfl, hb8⟩
    replace gx := Lib.hid (isN_of hb8 gx.out)
    replace hb := Lib.hid (hb.out.trans (hb8.mono hs))
    clear hs hb8
    have hs := hb.out.size
    go_wp2_with fail
    refine (oF.out.on _).mono ?_
    rintro e w9 ⟨rfl, hb9⟩
    replace gx := Lib.hid (isN_of hb9 gx.out)
    replace hb := Lib.hid (hb.out.trans (hb9.mono hs))
    clear hs hb9
    have hs := hb.out.size
    go_wp2_with fail
    refine (gN.out.on _).mono ?_
    rintro e w10 ⟨rfl, hb10⟩
    replace gx := Lib.hid (isN_of hb10 gx.out)
    replace hb := Lib.hid (hb.out.trans (hb10.mono hs))
    clear hs hb10
    have hs := hb.out.size
    go_wp2_with fail
    refine (cN.out.on _).mono ?_
    rintro e w11 ⟨rfl, hb11⟩
    replace gx := Lib.hid (isN_of hb11 gx.out)
    replace hb := Lib.hid (hb.out.trans (hb11.mono hs))
    clear hs hb11
    have hs := hb.out.size
    go_wp2_with fail
    go_ret
    exact ⟨rfl, hb.out⟩)

set_option maxRecDepth 100000 in
set_option maxHeartbeats 32000000 in
theorem texts_b (xn : Bool) (xh : Int) (xl : Int) (s : ByteArray) (n v : Int) (hs : s.size ≤ 100) (n1 : (xh == 0) = false) (cw : ∀ w : World, Calls Tryd.prog 9 #[] w fun e w' => e = .returned (.bool true) ∧ Below w.heap.size w w')
    (Yn : Bool) (Yh Yl Ye : Int) (kP : Ret 14 #[.string s] (.tuple #[wv ⟨Yn, Yh, Yl⟩, .int .i64 Ye])) (rP : Ret 15 #[.string s] (.tuple #[wv ⟨Yn, Yh, Yl⟩, .int .i64 Ye]))
    (t : ByteArray) (tX : Ret 16 #[wv ⟨xn, xh, xl⟩] (.string t)) (rT : Ret 17 #[wv ⟨xn, xh, xl⟩] (.string t))
    (sX : Ret 18 #[wv ⟨xn, xh, xl⟩] (.tuple #[.int .i64 0, .bool false])) (gX : Ret 19 #[wv ⟨xn, xh, xl⟩] (.bool true))
    (Mn : Bool) (Mh Ml c : Int) (oF : Ret 20 #[.int .i64 n] (wv ⟨Mn, Mh, Ml⟩)) (sN : Ret 18 #[wv ⟨Mn, Mh, Ml⟩] (.tuple #[.int .i64 n, .bool true]))
    (wW : Ret 21 #[.int .u64 v] (wv ⟨false, 0, v⟩)) (gN : Ret 22 #[wv ⟨Mn, Mh, Ml⟩] (.int .i64 c)) (cN : Ret 23 #[.int .i64 n] (.int .i64 c)) :
    Ret 5 #[wv ⟨xn, xh, xl⟩, .string s, .int .i64 n, .int .u64 v] (.bool true) := fun w => by
  unfold wv at *
  dsimp only at *
  have hle : ¬ (100 : Int) < (s.size : Int) := by omega
  have hte : (t.toList == t.toList) = true := beq_self_eq_true _
  replace cw := Lib.hid cw
  replace kP := Lib.hid kP
  replace rP := Lib.hid rP
  replace tX := Lib.hid tX
  replace rT := Lib.hid rT
  replace sX := Lib.hid sX
  replace gX := Lib.hid gX
  replace oF := Lib.hid oF
  replace sN := Lib.hid sN
  replace wW := Lib.hid wW
  replace gN := Lib.hid gN
  replace cN := Lib.hid cN
  go_enter Tryd.func5, Tryd.ntmps5
  go_wp2_with fail
  refine (cw.out _).mono ?_
  rintro e w1 ⟨rfl, hb1⟩
  obtain ⟨gx, hb⟩ := one_new (x := ⟨xn, xh, xl⟩) hb1
  have hs := hb.size
  clear hb1
  replace gx := Lib.hid gx
  replace hb := Lib.hid hb
  obtain ⟨cx0, cx1, cx2⟩ := gx.out.all
  dsimp only at cx0 cx1 cx2
  go_wp2_with fail
  refine (kP.out.on _).mono ?_
  rintro e w2 ⟨rfl, hb2⟩
  replace gx := Lib.hid (isN_of hb2 gx.out)
  replace hb := Lib.hid (hb.out.trans (hb2.mono hs))
  clear hs hb2
  have hs := hb.out.size
  replace gx := Lib.hid (gx.out.alloc (oN ⟨Yn, Yh, Yl⟩))
  have gy := Lib.hid (IsN.new w2 ⟨Yn, Yh, Yl⟩)
  replace hb := Lib.hid (hb.out.alloc hs (oN ⟨Yn, Yh, Yl⟩))
  clear hs
  have hs := hb.out.size
  clear cx0 cx1 cx2
  obtain ⟨cx0, cx1, cx2⟩ := gx.out.all
  dsimp only at cx0 cx1 cx2
  go_wp2_with fail
  refine (rP.out.on _).mono ?_
  rintro e w3 ⟨rfl, hb3⟩
  replace gx := Lib.hid (isN_of hb3 gx.out)
  replace gy := Lib.hid (isN_of hb3 gy.out)
  replace hb := Lib.hid (hb.out.trans (hb3.mono hs))
  clear hs hb3
  have hs := hb.out.size
  replace gx := Lib.hid (gx.out.alloc (oN ⟨Yn, Yh, Yl⟩))
  replace gy := Lib.hid (gy.out.alloc (oN ⟨Yn, Yh, Yl⟩))
  have gz := Lib.hid (IsN.new w3 ⟨Yn, Yh, Yl⟩)
  replace hb := Lib.hid (hb.out.alloc hs (oN ⟨Yn, Yh, Yl⟩))
  clear hs
  have hs := hb.out.size
  replace hb := Lib.hid (below_drewed hb.out)
  clear hs
  have hs := hb.out.size
  clear cx0 cx1 cx2
  obtain ⟨cx0, cx1, cx2⟩ := gx.out.all
  obtain ⟨cy0, cy1, cy2⟩ := gy.out.all
  obtain ⟨cz0, cz1, cz2⟩ := gz.out.all
  dsimp only at cx0 cx1 cx2 cy0 cy1 cy2 cz0 cz1 cz2
  have mk0 := Lib.hid trivial
  have mk1 := Lib.hid trivial
  go_wp2_with fail
  go_region_held3 (fun w1 => w1.cell? ⟨w.heap.size, 0, none⟩ = some (.bool xn) ∧ w1.cell? ⟨w.heap.size, 1, none⟩ = some (.int .u64 xh) ∧ w1.cell? ⟨w.heap.size, 2, none⟩ = some (.int .u64 xl) ∧ w1.cell? ⟨w2.heap.size, 0, none⟩ = some (.bool Yn) ∧ w1.cell? ⟨w2.heap.size, 1, none⟩ = some (.int .u64 Yh) ∧ w1.cell? ⟨w2.heap.size, 2, none⟩ = some (.int .u64 Yl) ∧ w1.cell? ⟨w3.heap.size, 0, none⟩ = some (.bool Yn) ∧ w1.cell? ⟨w3.heap.size, 1, none⟩ = some (.int .u64 Yh) ∧ w1.cell? ⟨w3.heap.size, 2, none⟩ = some (.int .u64 Yl)) (go_keep)
    (first
      | (go_at_call 16
         clear mk0
         refine (tX.out.on _).mono ?_
         rintro e wr ⟨rfl, hbr⟩
         have hb2 := Lib.hid (hb.out.trans (hbr.mono hs))
         clear hb hs
         have hb := hb2
         clear hb2
         have hs := hb.out.size
         have gg := Lib.hid (isN_of hbr gx.out)
         clear gx
         have gx := gg
         clear gg
         have gg := Lib.hid (isN_of hbr gy.out)
         clear gy
         have gy := gg
         clear gg
         have gg := Lib.hid (isN_of hbr gz.out)
         clear gz
         have gz := gg
         clear gg
         clear hbr cx0 cx1 cx2 cy0 cy1 cy2 cz0 cz1 cz2
         obtain ⟨cx0, cx1, cx2⟩ := gx.out.all
         obtain ⟨cy0, cy1, cy2⟩ := gy.out.all
         obtain ⟨cz0, cz1, cz2⟩ := gz.out.all
         dsimp only at cx0 cx1 cx2 cy0 cy1 cy2 cz0 cz1 cz2)
      | (go_at_call 17
         clear mk1
         refine (rT.out.on _).mono ?_
         rintro e wr ⟨rfl, hbr⟩
         have hb2 := Lib.hid (hb.out.trans (hbr.mono hs))
         clear hb hs
         have hb := hb2
         clear hb2
         have hs := hb.out.size
         have gg := Lib.hid (isN_of hbr gx.out)
         clear gx
         have gx := gg
         clear gg
         have gg := Lib.hid (isN_of hbr gy.out)
         clear gy
         have gy := gg
         clear gg
         have gg := Lib.hid (isN_of hbr gz.out)
         clear gz
         have gz := gg
         clear gg
         clear hbr cx0 cx1 cx2 cy0 cy1 cy2 cz0 cz1 cz2
         obtain ⟨cx0, cx1, cx2⟩ := gx.out.all
         obtain ⟨cy0, cy1, cy2⟩ := gy.out.all
         obtain ⟨cz0, cz1, cz2⟩ := gz.out.all
         dsimp only at cx0 cx1 cx2 cy0 cy1 cy2 cz0 cz1 cz2))
  all_goals (
    clear gy gz
    clear cy0 cy1 cy2 cz0 cz1 cz2 cx0 cx1 cx2
    (try clear mk0)
    (try clear mk1)
    obtain ⟨cx0, cx1, cx2⟩ := gx.out.all
    dsimp only at cx0 cx1 cx2
    go_wp2_with fail
    refine (sX.out.on _).mono ?_
    rintro e w4 ⟨rfl, hb4⟩
    replace gx := Lib.hid (isN_of hb4 gx.out)
    replace hb := Lib.hid (hb.out.trans (hb4.mono hs))
    clear hs hb4
    have hs := hb.out.size
    clear cx0 cx1 cx2
    obtain ⟨cx0, cx1, cx2⟩ := gx.out.all
    dsimp only at cx0 cx1 cx2
    go_wp2_with fail
    refine (gX.out.on _).mono ?_
    rintro e w5 ⟨rfl, hb5⟩
    replace gx := Lib.hid (isN_of hb5 gx.out)
    replace hb := Lib.hid (hb.out.trans (hb5.mono hs))
    clear hs hb5
    have hs := hb.out.size
    replace hb := Lib.hid (below_drewed hb.out)
    clear hs
    have hs := hb.out.size
    clear cx0 cx1 cx2
    obtain ⟨cx0, cx1, cx2⟩ := gx.out.all
    dsimp only at cx0 cx1 cx2
    go_wp2_with fail
    refine wp_region_held_at (S := fun w1 => w1.cell? ⟨w.heap.size, 0, none⟩ = some (.bool xn) ∧ w1.cell? ⟨w.heap.size, 1, none⟩ = some (.int .u64 xh) ∧ w1.cell? ⟨w.heap.size, 2, none⟩ = some (.int .u64 xl)) 20 rfl (by kernel_rfl) (by go_keep) (fun hH => ?_)
    refine wpAnyH_take (i := 0) (v := ?_) rfl (by decide +kernel) (by decide +kernel) (by decide +kernel) (fun _ _ _ h => h) (Or.inl ⟨by rfl, ?_⟩) (by assumption) ?_
    rotate_left
    · intro w1 hSw; (try dsimp only at hSw); (try simp only [List.getElem_toArray, List.getElem_cons_zero]); go_simp; try with_reducible rfl
    try simp only [List.getElem_toArray, List.getElem_cons_zero, Act.put, List.setIfInBounds_toArray, List.set_cons_zero, List.set_cons_succ]
    refine wpAnyH_take (i := 1) (v := ?_) rfl (by decide +kernel) (by decide +kernel) (by decide +kernel) (fun _ _ _ h => h) (Or.inl ⟨by rfl, ?_⟩) (by assumption) ?_
    rotate_left
    · intro w1 hSw; (try dsimp only at hSw); (try simp only [List.getElem_toArray, List.getElem_cons_zero, List.getElem_cons_succ]); go_simp; try with_reducible rfl
    try simp only [List.getElem_toArray, List.getElem_cons_zero, List.getElem_cons_succ, Act.put, List.setIfInBounds_toArray, List.set_cons_zero, List.set_cons_succ]
    refine wpAnyH_take (i := 2) (v := ?_) rfl (by decide +kernel) (by decide +kernel) (by decide +kernel) (fun _ _ _ h => h) (Or.inl ⟨by rfl, ?_⟩) (by assumption) ?_
    rotate_left
    · intro w1 hSw; (try dsimp only at hSw); (try simp only [List.getElem_toArray, List.getElem_cons_zero, List.getElem_cons_succ]); go_simp; try with_reducible rfl
    try simp only [List.getElem_toArray, List.getElem_cons_zero, List.getElem_cons_succ, Act.put, List.setIfInBounds_toArray, List.set_cons_zero, List.set_cons_succ]
    refine wpAnyH_take (i := 3) (v := ?_) rfl (by decide +kernel) (by decide +kernel) (by decide +kernel) (fun _ _ _ h => h) (Or.inl ⟨by rfl, ?_⟩) (by assumption) ?_
    rotate_left
    · intro w1 hSw; (try dsimp only at hSw); (try simp only [List.getElem_toArray, List.getElem_cons_zero, List.getElem_cons_succ]); go_simp; try with_reducible rfl
    try simp only [List.getElem_toArray, List.getElem_cons_zero, List.getElem_cons_succ, Act.put, List.setIfInBounds_toArray, List.set_cons_zero, List.set_cons_succ]
    refine wpAnyH_take (i := 4) (v := ?_) rfl (by decide +kernel) (by decide +kernel) (by decide +kernel) (fun _ _ _ h => h) (Or.inl ⟨by rfl, ?_⟩) (by assumption) ?_
    rotate_left
    · intro w1 hSw; (try dsimp only at hSw); (try simp only [List.getElem_toArray, List.getElem_cons_zero, List.getElem_cons_succ]); go_simp; try with_reducible rfl
    try simp only [List.getElem_toArray, List.getElem_cons_zero, List.getElem_cons_succ, Act.put, List.setIfInBounds_toArray, List.set_cons_zero, List.set_cons_succ]
    refine wpAnyH_take (i := 5) (v := ?_) rfl (by decide +kernel) (by decide +kernel) (by decide +kernel) (fun _ _ _ h => h) (Or.inl ⟨by rfl, ?_⟩) (by assumption) ?_
    rotate_left
    · intro w1 hSw; (try dsimp only at hSw); (try simp only [List.getElem_toArray, List.getElem_cons_zero, List.getElem_cons_succ]); go_simp; try with_reducible rfl
    try simp only [List.getElem_toArray, List.getElem_cons_zero, List.getElem_cons_succ, Act.put, List.setIfInBounds_toArray, List.set_cons_zero, List.set_cons_succ]
    refine wpAnyH_take (i := 6) (v := ?_) rfl (by decide +kernel) (by decide +kernel) (by decide +kernel) (fun _ _ _ h => h) (Or.inl ⟨by rfl, ?_⟩) (by assumption) ?_
    rotate_left
    · intro w1 hSw; (try dsimp only at hSw); (try simp only [List.getElem_toArray, List.getElem_cons_zero, List.getElem_cons_succ]); go_simp; try with_reducible rfl
    try simp only [List.getElem_toArray, List.getElem_cons_zero, List.getElem_cons_succ, Act.put, List.setIfInBounds_toArray, List.set_cons_zero, List.set_cons_succ]
    refine wpAnyH_take (i := 7) (v := ?_) rfl (by decide +kernel) (by decide +kernel) (by decide +kernel) (fun _ _ _ h => h) (Or.inl ⟨by rfl, ?_⟩) (by assumption) ?_
    rotate_left
    · intro w1 hSw; (try dsimp only at hSw); (try simp only [List.getElem_toArray, List.getElem_cons_zero, List.getElem_cons_succ]); go_simp; try with_reducible rfl
    try simp only [List.getElem_toArray, List.getElem_cons_zero, List.getElem_cons_succ, Act.put, List.setIfInBounds_toArray, List.set_cons_zero, List.set_cons_succ]
    refine wpAnyH_take (i := 8) (v := ?_) rfl (by decide +kernel) (by decide +kernel) (by decide +kernel) (fun _ _ _ h => h) (Or.inl ⟨by rfl, ?_⟩) (by assumption) ?_
    rotate_left
    · intro w1 hSw; (try dsimp only at hSw); (try simp only [List.getElem_toArray, List.getElem_cons_zero, List.getElem_cons_succ]); go_simp; try with_reducible rfl
    try simp only [List.getElem_toArray, List.getElem_cons_zero, List.getElem_cons_succ, Act.put, List.setIfInBounds_toArray, List.set_cons_zero, List.set_cons_succ]
    refine wpAnyH_take (i := 9) (v := ?_) rfl (by decide +kernel) (by decide +kernel) (by decide +kernel) (fun _ _ _ h => h) (Or.inl ⟨by rfl, ?_⟩) (by assumption) ?_
    rotate_left
    · intro w1 hSw; (try dsimp only at hSw); (try simp only [List.getElem_toArray, List.getElem_cons_zero, List.getElem_cons_succ]); go_simp; try with_reducible rfl
    try simp only [List.getElem_toArray, List.getElem_cons_zero, List.getElem_cons_succ, Act.put, List.setIfInBounds_toArray, List.set_cons_zero, List.set_cons_succ]
    refine wpAnyH_take (i := 10) (v := ?_) rfl (by decide +kernel) (by decide +kernel) (by decide +kernel) (fun _ _ _ h => h) (Or.inl ⟨by rfl, ?_⟩) (by assumption) ?_
    rotate_left
    · intro w1 hSw; (try dsimp only at hSw); (try simp only [List.getElem_toArray, List.getElem_cons_zero, List.getElem_cons_succ]); go_simp; try with_reducible rfl
    try simp only [List.getElem_toArray, List.getElem_cons_zero, List.getElem_cons_succ, Act.put, List.setIfInBounds_toArray, List.set_cons_zero, List.set_cons_succ]
    refine wpAnyH_take (i := 11) (v := ?_) rfl (by decide +kernel) (by decide +kernel) (by decide +kernel) (fun _ _ _ h => h) (Or.inl ⟨by rfl, ?_⟩) (by assumption) ?_
    rotate_left
    · intro w1 hSw; (try dsimp only at hSw); (try simp only [List.getElem_toArray, List.getElem_cons_zero, List.getElem_cons_succ]); go_simp; try with_reducible rfl
    try simp only [List.getElem_toArray, List.getElem_cons_zero, List.getElem_cons_succ, Act.put, List.setIfInBounds_toArray, List.set_cons_zero, List.set_cons_succ]
    refine wpAnyH_take (i := 12) (v := ?_) rfl (by decide +kernel) (by decide +kernel) (by decide +kernel) (fun _ _ _ h => h) (Or.inl ⟨by rfl, ?_⟩) (by assumption) ?_
    rotate_left
    · intro w1 hSw; (try dsimp only at hSw); (try simp only [List.getElem_toArray, List.getElem_cons_zero, List.getElem_cons_succ]); go_simp; try with_reducible rfl
    try simp only [List.getElem_toArray, List.getElem_cons_zero, List.getElem_cons_succ, Act.put, List.setIfInBounds_toArray, List.set_cons_zero, List.set_cons_succ]
    refine wpAnyH_take (i := 13) (v := ?_) rfl (by decide +kernel) (by decide +kernel) (by decide +kernel) (fun _ _ _ h => h) (Or.inl ⟨by rfl, ?_⟩) (by assumption) ?_
    rotate_left
    · intro w1 hSw; (try dsimp only at hSw); (try simp only [List.getElem_toArray, List.getElem_cons_zero, List.getElem_cons_succ]); go_simp; try with_reducible rfl
    try simp only [List.getElem_toArray, List.getElem_cons_zero, List.getElem_cons_succ, Act.put, List.setIfInBounds_toArray, List.set_cons_zero, List.set_cons_succ]
    refine wpAnyH_take (i := 14) (v := undef) rfl (by decide +kernel) (by decide +kernel) (by decide +kernel) (fun _ _ _ h => h) (Or.inr ⟨by rfl, rfl⟩) (by assumption) ?_
    try simp only [List.getElem_toArray, List.getElem_cons_zero, List.getElem_cons_succ, Act.put, List.setIfInBounds_toArray, List.set_cons_zero, List.set_cons_succ]
    refine wpAnyH_take (i := 15) (v := undef) rfl (by decide +kernel) (by decide +kernel) (by decide +kernel) (fun _ _ _ h => h) (Or.inr ⟨by rfl, rfl⟩) (by assumption) ?_
    try simp only [List.getElem_toArray, List.getElem_cons_zero, List.getElem_cons_succ, Act.put, List.setIfInBounds_toArray, List.set_cons_zero, List.set_cons_succ]
    refine wpAnyH_take (i := 16) (v := undef) rfl (by decide +kernel) (by decide +kernel) (by decide +kernel) (fun _ _ _ h => h) (Or.inr ⟨by rfl, rfl⟩) (by assumption) ?_
    try simp only [List.getElem_toArray, List.getElem_cons_zero, List.getElem_cons_succ, Act.put, List.setIfInBounds_toArray, List.set_cons_zero, List.set_cons_succ]
    refine wpAnyH_take (i := 17) (v := undef) rfl (by decide +kernel) (by decide +kernel) (by decide +kernel) (fun _ _ _ h => h) (Or.inr ⟨by rfl, rfl⟩) (by assumption) ?_
    try simp only [List.getElem_toArray, List.getElem_cons_zero, List.getElem_cons_succ, Act.put, List.setIfInBounds_toArray, List.set_cons_zero, List.set_cons_succ]
    refine wpAnyH_take (i := 18) (v := ?_) rfl (by decide +kernel) (by decide +kernel) (by decide +kernel) (fun _ _ _ h => h) (Or.inl ⟨by rfl, ?_⟩) (by assumption) ?_
    rotate_left
    · intro w1 hSw; (try dsimp only at hSw); (try simp only [List.getElem_toArray, List.getElem_cons_zero, List.getElem_cons_succ]); go_simp; try with_reducible rfl
    try simp only [List.getElem_toArray, List.getElem_cons_zero, List.getElem_cons_succ, Act.put, List.setIfInBounds_toArray, List.set_cons_zero, List.set_cons_succ]
    refine wpAnyH_take (i := 19) (v := ?_) rfl (by decide +kernel) (by decide +kernel) (by decide +kernel) (fun _ _ _ h => h) (Or.inl ⟨by rfl, ?_⟩) (by assumption) ?_
    rotate_left
    · intro w1 hSw; (try dsimp only at hSw); (try simp only [List.getElem_toArray, List.getElem_cons_zero, List.getElem_cons_succ]); go_simp; try with_reducible rfl
    try simp only [List.getElem_toArray, List.getElem_cons_zero, List.getElem_cons_succ, Act.put, List.setIfInBounds_toArray, List.set_cons_zero, List.set_cons_succ]
    refine wpAnyH_done (by decide +kernel) ?_ _
    clear hH
    clear cx0 cx1 cx2
    go_wp2_with fail
    refine (oF.out.on _).mono ?_
    rintro e w6 ⟨rfl, hb6⟩
    replace gx := Lib.hid (isN_of hb6 gx.out)
    replace hb := Lib.hid (hb.out.trans (hb6.mono hs))
    clear hs hb6
    have hs := hb.out.size
    go_wp2_with fail
    refine (sN.out.on _).mono ?_
    rintro e w7 ⟨rfl, hb7⟩
    replace gx := Lib.hid (isN_of hb7 gx.out)
    replace hb := Lib.hid (hb.out.trans (hb7.mono hs))
    clear hs hb7
    have hs := hb.out.size
    go_wp2_with fail
    refine (wW.out.on _).mono ?_
    rintro e w8 ⟨rfl, hb8⟩
    replace gx := Lib.hid (isN_of hb8 gx.out)
    replace hb := Lib.hid (hb.out.trans (hb8.mono hs))
    clear hs hb8
    have hs := hb.out.size
    go_wp2_with fail
    refine (oF.out.on _).mono ?_
    rintro e w9 ⟨rfl, hb9⟩
    replace gx := Lib.hid (isN_of hb9 gx.out)
    replace hb := Lib.hid (hb.out.trans (hb9.mono hs))
    clear hs hb9
    have hs := hb.out.size
    go_wp2_with fail
    refine (gN.out.on _).mono ?_
    rintro e w10 ⟨rfl, hb10⟩
    replace gx := Lib.hid (isN_of hb10 gx.out)
    replace hb := Lib.hid (hb.out.trans (hb10.mono hs))
    clear hs hb10
    have hs := hb.out.size
    go_wp2_with fail
    refine (cN.out.on _).mono ?_
    rintro e w11 ⟨rfl, hb11⟩
    replace gx := Lib.hid (isN_of hb11 gx.out)
    replace hb := Lib.hid (hb.out.trans (hb11.mono hs))
    clear hs hb11
    have hs := hb.out.size
    go_wp2_with fail
    go_ret
    exact ⟨rfl, hb.out⟩)

set_option maxRecDepth 100000 in
set_option maxHeartbeats 32000000 in
theorem texts_c (xn : Bool) (xl : Int) (s : ByteArray) (n v : Int) (hs : s.size ≤ 100) (n2 : xl < 9223372036854775808) (cw : ∀ w : World, Calls Tryd.prog 9 #[] w fun e w' => e = .returned (.bool true) ∧ Below w.heap.size w w')
    (Yn : Bool) (Yh Yl Ye : Int) (kP : Ret 14 #[.string s] (.tuple #[wv ⟨Yn, Yh, Yl⟩, .int .i64 Ye])) (rP : Ret 15 #[.string s] (.tuple #[wv ⟨Yn, Yh, Yl⟩, .int .i64 Ye]))
    (t : ByteArray) (tX : Ret 16 #[wv ⟨xn, 0, xl⟩] (.string t)) (rT : Ret 17 #[wv ⟨xn, 0, xl⟩] (.string t))
    (k : Int) (sX : Ret 18 #[wv ⟨xn, 0, xl⟩] (.tuple #[.int .i64 k, .bool true])) (gX : Ret 19 #[wv ⟨xn, 0, xl⟩] (.bool true))
    (oK : Ret 20 #[.int .i64 k] (wv ⟨xn, 0, xl⟩))
    (Mn : Bool) (Mh Ml c : Int) (oF : Ret 20 #[.int .i64 n] (wv ⟨Mn, Mh, Ml⟩)) (sN : Ret 18 #[wv ⟨Mn, Mh, Ml⟩] (.tuple #[.int .i64 n, .bool true]))
    (wW : Ret 21 #[.int .u64 v] (wv ⟨false, 0, v⟩)) (gN : Ret 22 #[wv ⟨Mn, Mh, Ml⟩] (.int .i64 c)) (cN : Ret 23 #[.int .i64 n] (.int .i64 c)) :
    Ret 5 #[wv ⟨xn, 0, xl⟩, .string s, .int .i64 n, .int .u64 v] (.bool true) := fun w => by
  unfold wv at *
  dsimp only at *
  have hle : ¬ (100 : Int) < (s.size : Int) := by omega
  have hte : (t.toList == t.toList) = true := beq_self_eq_true _
  replace cw := Lib.hid cw
  replace kP := Lib.hid kP
  replace rP := Lib.hid rP
  replace tX := Lib.hid tX
  replace rT := Lib.hid rT
  replace sX := Lib.hid sX
  replace gX := Lib.hid gX
  replace oF := Lib.hid oF
  replace sN := Lib.hid sN
  replace wW := Lib.hid wW
  replace gN := Lib.hid gN
  replace cN := Lib.hid cN
  replace oK := Lib.hid oK
  go_enter Tryd.func5, Tryd.ntmps5
  go_wp2_with fail
  refine (cw.out _).mono ?_
  rintro e w1 ⟨rfl, hb1⟩
  obtain ⟨gx, hb⟩ := one_new (x := ⟨xn, 0, xl⟩) hb1
  have hs := hb.size
  clear hb1
  replace gx := Lib.hid gx
  replace hb := Lib.hid hb
  obtain ⟨cx0, cx1, cx2⟩ := gx.out.all
  dsimp only at cx0 cx1 cx2
  go_wp2_with fail
  refine (kP.out.on _).mono ?_
  rintro e w2 ⟨rfl, hb2⟩
  replace gx := Lib.hid (isN_of hb2 gx.out)
  replace hb := Lib.hid (hb.out.trans (hb2.mono hs))
  clear hs hb2
  have hs := hb.out.size
  replace gx := Lib.hid (gx.out.alloc (oN ⟨Yn, Yh, Yl⟩))
  have gy := Lib.hid (IsN.new w2 ⟨Yn, Yh, Yl⟩)
  replace hb := Lib.hid (hb.out.alloc hs (oN ⟨Yn, Yh, Yl⟩))
  clear hs
  have hs := hb.out.size
  clear cx0 cx1 cx2
  obtain ⟨cx0, cx1, cx2⟩ := gx.out.all
  dsimp only at cx0 cx1 cx2
  go_wp2_with fail
  refine (rP.out.on _).mono ?_
  rintro e w3 ⟨rfl, hb3⟩
  replace gx := Lib.hid (isN_of hb3 gx.out)
  replace gy := Lib.hid (isN_of hb3 gy.out)
  replace hb := Lib.hid (hb.out.trans (hb3.mono hs))
  clear hs hb3
  have hs := hb.out.size
  replace gx := Lib.hid (gx.out.alloc (oN ⟨Yn, Yh, Yl⟩))
  replace gy := Lib.hid (gy.out.alloc (oN ⟨Yn, Yh, Yl⟩))
  have gz := Lib.hid (IsN.new w3 ⟨Yn, Yh, Yl⟩)
  replace hb := Lib.hid (hb.out.alloc hs (oN ⟨Yn, Yh, Yl⟩))
  clear hs
  have hs := hb.out.size
  replace hb := Lib.hid (below_drewed hb.out)
  clear hs
  have hs := hb.out.size
  clear cx0 cx1 cx2
  obtain ⟨cx0, cx1, cx2⟩ := gx.out.all
  obtain ⟨cy0, cy1, cy2⟩ := gy.out.all
  obtain ⟨cz0, cz1, cz2⟩ := gz.out.all
  dsimp only at cx0 cx1 cx2 cy0 cy1 cy2 cz0 cz1 cz2
  have mk0 := Lib.hid trivial
  have mk1 := Lib.hid trivial
  go_wp2_with fail
  go_region_held3 (fun w1 => w1.cell? ⟨w.heap.size, 0, none⟩ = some (.bool xn) ∧ w1.cell? ⟨w.heap.size, 1, none⟩ = some (.int .u64 0) ∧ w1.cell? ⟨w.heap.size, 2, none⟩ = some (.int .u64 xl) ∧ w1.cell? ⟨w2.heap.size, 0, none⟩ = some (.bool Yn) ∧ w1.cell? ⟨w2.heap.size, 1, none⟩ = some (.int .u64 Yh) ∧ w1.cell? ⟨w2.heap.size, 2, none⟩ = some (.int .u64 Yl) ∧ w1.cell? ⟨w3.heap.size, 0, none⟩ = some (.bool Yn) ∧ w1.cell? ⟨w3.heap.size, 1, none⟩ = some (.int .u64 Yh) ∧ w1.cell? ⟨w3.heap.size, 2, none⟩ = some (.int .u64 Yl)) (go_keep)
    (first
      | (go_at_call 16
         clear mk0
         refine (tX.out.on _).mono ?_
         rintro e wr ⟨rfl, hbr⟩
         have hb2 := Lib.hid (hb.out.trans (hbr.mono hs))
         clear hb hs
         have hb := hb2
         clear hb2
         have hs := hb.out.size
         have gg := Lib.hid (isN_of hbr gx.out)
         clear gx
         have gx := gg
         clear gg
         have gg := Lib.hid (isN_of hbr gy.out)
         clear gy
         have gy := gg
         clear gg
         have gg := Lib.hid (isN_of hbr gz.out)
         clear gz
         have gz := gg
         clear gg
         clear hbr cx0 cx1 cx2 cy0 cy1 cy2 cz0 cz1 cz2
         obtain ⟨cx0, cx1, cx2⟩ := gx.out.all
         obtain ⟨cy0, cy1, cy2⟩ := gy.out.all
         obtain ⟨cz0, cz1, cz2⟩ := gz.out.all
         dsimp only at cx0 cx1 cx2 cy0 cy1 cy2 cz0 cz1 cz2)
      | (go_at_call 17
         clear mk1
         refine (rT.out.on _).mono ?_
         rintro e wr ⟨rfl, hbr⟩
         have hb2 := Lib.hid (hb.out.trans (hbr.mono hs))
         clear hb hs
         have hb := hb2
         clear hb2
         have hs := hb.out.size
         have gg := Lib.hid (isN_of hbr gx.out)
         clear gx
         have gx := gg
         clear gg
         have gg := Lib.hid (isN_of hbr gy.out)
         clear gy
         have gy := gg
         clear gg
         have gg := Lib.hid (isN_of hbr gz.out)
         clear gz
         have gz := gg
         clear gg
         clear hbr cx0 cx1 cx2 cy0 cy1 cy2 cz0 cz1 cz2
         obtain ⟨cx0, cx1, cx2⟩ := gx.out.all
         obtain ⟨cy0, cy1, cy2⟩ := gy.out.all
         obtain ⟨cz0, cz1, cz2⟩ := gz.out.all
         dsimp only at cx0 cx1 cx2 cy0 cy1 cy2 cz0 cz1 cz2))
  all_goals (
    clear gy gz
    clear cy0 cy1 cy2 cz0 cz1 cz2 cx0 cx1 cx2
    (try clear mk0)
    (try clear mk1)
    obtain ⟨cx0, cx1, cx2⟩ := gx.out.all
    dsimp only at cx0 cx1 cx2
    go_wp2_with fail
    refine (sX.out.on _).mono ?_
    rintro e w4 ⟨rfl, hb4⟩
    replace gx := Lib.hid (isN_of hb4 gx.out)
    replace hb := Lib.hid (hb.out.trans (hb4.mono hs))
    clear hs hb4
    have hs := hb.out.size
    clear cx0 cx1 cx2
    obtain ⟨cx0, cx1, cx2⟩ := gx.out.all
    dsimp only at cx0 cx1 cx2
    go_wp2_with fail
    refine (gX.out.on _).mono ?_
    rintro e w5 ⟨rfl, hb5⟩
    replace gx := Lib.hid (isN_of hb5 gx.out)
    replace hb := Lib.hid (hb.out.trans (hb5.mono hs))
    clear hs hb5
    have hs := hb.out.size
    replace hb := Lib.hid (below_drewed hb.out)
    clear hs
    have hs := hb.out.size
    clear cx0 cx1 cx2
    obtain ⟨cx0, cx1, cx2⟩ := gx.out.all
    dsimp only at cx0 cx1 cx2
    go_wp2_with fail
    refine wp_region_held_at (S := fun w1 => w1.cell? ⟨w.heap.size, 0, none⟩ = some (.bool xn) ∧ w1.cell? ⟨w.heap.size, 1, none⟩ = some (.int .u64 0) ∧ w1.cell? ⟨w.heap.size, 2, none⟩ = some (.int .u64 xl)) 20 rfl (by kernel_rfl) (by go_keep) (fun hH => ?_)
    refine wpAnyH_take (i := 0) (v := ?_) rfl (by decide +kernel) (by decide +kernel) (by decide +kernel) (fun _ _ _ h => h) (Or.inl ⟨by rfl, ?_⟩) (by assumption) ?_
    rotate_left
    · intro w1 hSw; (try dsimp only at hSw); (try simp only [List.getElem_toArray, List.getElem_cons_zero]); go_simp; try with_reducible rfl
    try simp only [List.getElem_toArray, List.getElem_cons_zero, Act.put, List.setIfInBounds_toArray, List.set_cons_zero, List.set_cons_succ]
    refine wpAnyH_take (i := 1) (v := ?_) rfl (by decide +kernel) (by decide +kernel) (by decide +kernel) (fun _ _ _ h => h) (Or.inl ⟨by rfl, ?_⟩) (by assumption) ?_
    rotate_left
    · intro w1 hSw; (try dsimp only at hSw); (try simp only [List.getElem_toArray, List.getElem_cons_zero, List.getElem_cons_succ]); go_simp; try with_reducible rfl
    try simp only [List.getElem_toArray, List.getElem_cons_zero, List.getElem_cons_succ, Act.put, List.setIfInBounds_toArray, List.set_cons_zero, List.set_cons_succ]
    refine wpAnyH_take (i := 2) (v := ?_) rfl (by decide +kernel) (by decide +kernel) (by decide +kernel) (fun _ _ _ h => h) (Or.inl ⟨by rfl, ?_⟩) (by assumption) ?_
    rotate_left
    · intro w1 hSw; (try dsimp only at hSw); (try simp only [List.getElem_toArray, List.getElem_cons_zero, List.getElem_cons_succ]); go_simp; try with_reducible rfl
    try simp only [List.getElem_toArray, List.getElem_cons_zero, List.getElem_cons_succ, Act.put, List.setIfInBounds_toArray, List.set_cons_zero, List.set_cons_succ]
    refine wpAnyH_take (i := 3) (v := ?_) rfl (by decide +kernel) (by decide +kernel) (by decide +kernel) (fun _ _ _ h => h) (Or.inl ⟨by rfl, ?_⟩) (by assumption) ?_
    rotate_left
    · intro w1 hSw; (try dsimp only at hSw); (try simp only [List.getElem_toArray, List.getElem_cons_zero, List.getElem_cons_succ]); go_simp; try with_reducible rfl
    try simp only [List.getElem_toArray, List.getElem_cons_zero, List.getElem_cons_succ, Act.put, List.setIfInBounds_toArray, List.set_cons_zero, List.set_cons_succ]
    refine wpAnyH_take (i := 4) (v := ?_) rfl (by decide +kernel) (by decide +kernel) (by decide +kernel) (fun _ _ _ h => h) (Or.inl ⟨by rfl, ?_⟩) (by assumption) ?_
    rotate_left
    · intro w1 hSw; (try dsimp only at hSw); (try simp only [List.getElem_toArray, List.getElem_cons_zero, List.getElem_cons_succ]); go_simp; try with_reducible rfl
    try simp only [List.getElem_toArray, List.getElem_cons_zero, List.getElem_cons_succ, Act.put, List.setIfInBounds_toArray, List.set_cons_zero, List.set_cons_succ]
    refine wpAnyH_take (i := 5) (v := ?_) rfl (by decide +kernel) (by decide +kernel) (by decide +kernel) (fun _ _ _ h => h) (Or.inl ⟨by rfl, ?_⟩) (by assumption) ?_
    rotate_left
    · intro w1 hSw; (try dsimp only at hSw); (try simp only [List.getElem_toArray, List.getElem_cons_zero, List.getElem_cons_succ]); go_simp; try with_reducible rfl
    try simp only [List.getElem_toArray, List.getElem_cons_zero, List.getElem_cons_succ, Act.put, List.setIfInBounds_toArray, List.set_cons_zero, List.set_cons_succ]
    refine wpAnyH_take (i := 6) (v := ?_) rfl (by decide +kernel) (by decide +kernel) (by decide +kernel) (fun _ _ _ h => h) (Or.inl ⟨by rfl, ?_⟩) (by assumption) ?_
    rotate_left
    · intro w1 hSw; (try dsimp only at hSw); (try simp only [List.getElem_toArray, List.getElem_cons_zero, List.getElem_cons_succ]); go_simp; try with_reducible rfl
    try simp only [List.getElem_toArray, List.getElem_cons_zero, List.getElem_cons_succ, Act.put, List.setIfInBounds_toArray, List.set_cons_zero, List.set_cons_succ]
    refine wpAnyH_take (i := 7) (v := undef) rfl (by decide +kernel) (by decide +kernel) (by decide +kernel) (fun _ _ _ h => h) (Or.inr ⟨by rfl, rfl⟩) (by assumption) ?_
    try simp only [List.getElem_toArray, List.getElem_cons_zero, List.getElem_cons_succ, Act.put, List.setIfInBounds_toArray, List.set_cons_zero, List.set_cons_succ]
    refine wpAnyH_take (i := 8) (v := undef) rfl (by decide +kernel) (by decide +kernel) (by decide +kernel) (fun _ _ _ h => h) (Or.inr ⟨by rfl, rfl⟩) (by assumption) ?_
    try simp only [List.getElem_toArray, List.getElem_cons_zero, List.getElem_cons_succ, Act.put, List.setIfInBounds_toArray, List.set_cons_zero, List.set_cons_succ]
    refine wpAnyH_take (i := 9) (v := ?_) rfl (by decide +kernel) (by decide +kernel) (by decide +kernel) (fun _ _ _ h => h) (Or.inl ⟨by rfl, ?_⟩) (by assumption) ?_
    rotate_left
    · intro w1 hSw; (try dsimp only at hSw); (try simp only [List.getElem_toArray, List.getElem_cons_zero, List.getElem_cons_succ]); go_simp; try with_reducible rfl
    try simp only [List.getElem_toArray, List.getElem_cons_zero, List.getElem_cons_succ, Act.put, List.setIfInBounds_toArray, List.set_cons_zero, List.set_cons_succ]
    refine wpAnyH_take (i := 10) (v := ?_) rfl (by decide +kernel) (by decide +kernel) (by decide +kernel) (fun _ _ _ h => h) (Or.inl ⟨by rfl, ?_⟩) (by assumption) ?_
    rotate_left
    · intro w1 hSw; (try dsimp only at hSw); (try simp only [List.getElem_toArray, List.getElem_cons_zero, List.getElem_cons_succ]); go_simp; try with_reducible rfl
    try simp only [List.getElem_toArray, List.getElem_cons_zero, List.getElem_cons_succ, Act.put, List.setIfInBounds_toArray, List.set_cons_zero, List.set_cons_succ]
    refine wpAnyH_take (i := 11) (v := ?_) rfl (by decide +kernel) (by decide +kernel) (by decide +kernel) (fun _ _ _ h => h) (Or.inl ⟨by rfl, ?_⟩) (by assumption) ?_
    rotate_left
    · intro w1 hSw; (try dsimp only at hSw); (try simp only [List.getElem_toArray, List.getElem_cons_zero, List.getElem_cons_succ]); go_simp; try with_reducible rfl
    try simp only [List.getElem_toArray, List.getElem_cons_zero, List.getElem_cons_succ, Act.put, List.setIfInBounds_toArray, List.set_cons_zero, List.set_cons_succ]
    refine wpAnyH_take (i := 12) (v := ?_) rfl (by decide +kernel) (by decide +kernel) (by decide +kernel) (fun _ _ _ h => h) (Or.inl ⟨by rfl, ?_⟩) (by assumption) ?_
    rotate_left
    · intro w1 hSw; (try dsimp only at hSw); (try simp only [List.getElem_toArray, List.getElem_cons_zero, List.getElem_cons_succ]); go_simp; try with_reducible rfl
    try simp only [List.getElem_toArray, List.getElem_cons_zero, List.getElem_cons_succ, Act.put, List.setIfInBounds_toArray, List.set_cons_zero, List.set_cons_succ]
    refine wpAnyH_take (i := 13) (v := ?_) rfl (by decide +kernel) (by decide +kernel) (by decide +kernel) (fun _ _ _ h => h) (Or.inl ⟨by rfl, ?_⟩) (by assumption) ?_
    rotate_left
    · intro w1 hSw; (try dsimp only at hSw); (try simp only [List.getElem_toArray, List.getElem_cons_zero, List.getElem_cons_succ]); go_simp; try with_reducible rfl
    try simp only [List.getElem_toArray, List.getElem_cons_zero, List.getElem_cons_succ, Act.put, List.setIfInBounds_toArray, List.set_cons_zero, List.set_cons_succ]
    refine wpAnyH_take (i := 14) (v := ?_) rfl (by decide +kernel) (by decide +kernel) (by decide +kernel) (fun _ _ _ h => h) (Or.inl ⟨by rfl, ?_⟩) (by assumption) ?_
    rotate_left
    · intro w1 hSw; (try dsimp only at hSw); (try simp only [List.getElem_toArray, List.getElem_cons_zero, List.getElem_cons_succ]); go_simp; try with_reducible rfl
    try simp only [List.getElem_toArray, List.getElem_cons_zero, List.getElem_cons_succ, Act.put, List.setIfInBounds_toArray, List.set_cons_zero, List.set_cons_succ]
    refine wpAnyH_take (i := 16) (v := ?_) rfl (by decide +kernel) (by decide +kernel) (by decide +kernel) (fun _ _ _ h => h) (Or.inl ⟨by rfl, ?_⟩) (by assumption) ?_
    rotate_left
    · intro w1 hSw; (try dsimp only at hSw); (try simp only [List.getElem_toArray, List.getElem_cons_zero, List.getElem_cons_succ]); go_simp; try with_reducible rfl
    try simp only [List.getElem_toArray, List.getElem_cons_zero, List.getElem_cons_succ, Act.put, List.setIfInBounds_toArray, List.set_cons_zero, List.set_cons_succ]
    refine wpAnyH_ready (rs := [15]) (by decide +kernel) (by simp) ?_
    refine AllReadyH.cons rfl (fun K hK => ?_) AllReadyH.nil
    (try simp only [List.getElem_toArray, List.getElem_cons_zero, List.getElem_cons_succ])
    go_simp
    refine (oK.out.on _).mono ?_
    rintro e wr ⟨rfl, hbr⟩
    have hb2 := Lib.hid (hb.out.trans (hbr.mono hs))
    clear hb hs
    have hb := hb2
    clear hb2
    have hs := hb.out.size
    have gg := Lib.hid (isN_of hbr gx.out)
    clear gx
    have gx := gg
    clear gg
    clear hH hbr cx0 cx1 cx2
    obtain ⟨cx0, cx1, cx2⟩ := gx.out.all
    dsimp only at cx0 cx1 cx2
    go_simp
    refine hK.out _ _ (by go_keep) (fun hH => ?_)
    clear hK K
    try simp only [List.getElem_toArray, List.getElem_cons_zero, List.getElem_cons_succ, Act.put, List.setIfInBounds_toArray, List.set_cons_zero, List.set_cons_succ]
    refine wpAnyH_take (i := 17) (v := ?_) rfl (by decide +kernel) (by decide +kernel) (by decide +kernel) (fun _ _ _ h => h) (Or.inl ⟨by rfl, ?_⟩) (by assumption) ?_
    rotate_left
    · intro w1 hSw; (try dsimp only at hSw); (try simp only [List.getElem_toArray, List.getElem_cons_zero, List.getElem_cons_succ]); go_simp; try with_reducible rfl
    try simp only [List.getElem_toArray, List.getElem_cons_zero, List.getElem_cons_succ, Act.put, List.setIfInBounds_toArray, List.set_cons_zero, List.set_cons_succ]
    refine wpAnyH_take (i := 18) (v := ?_) rfl (by decide +kernel) (by decide +kernel) (by decide +kernel) (fun _ _ _ h => h) (Or.inl ⟨by rfl, ?_⟩) (by assumption) ?_
    rotate_left
    · intro w1 hSw; (try dsimp only at hSw); (try simp only [List.getElem_toArray, List.getElem_cons_zero, List.getElem_cons_succ]); go_simp; try with_reducible rfl
    try simp only [List.getElem_toArray, List.getElem_cons_zero, List.getElem_cons_succ, Act.put, List.setIfInBounds_toArray, List.set_cons_zero, List.set_cons_succ]
    refine wpAnyH_take (i := 19) (v := ?_) rfl (by decide +kernel) (by decide +kernel) (by decide +kernel) (fun _ _ _ h => h) (Or.inl ⟨by rfl, ?_⟩) (by assumption) ?_
    rotate_left
    · intro w1 hSw; (try dsimp only at hSw); (try simp only [List.getElem_toArray, List.getElem_cons_zero, List.getElem_cons_succ]); go_simp; try with_reducible rfl
    try simp only [List.getElem_toArray, List.getElem_cons_zero, List.getElem_cons_succ, Act.put, List.setIfInBounds_toArray, List.set_cons_zero, List.set_cons_succ]
    refine wpAnyH_done (by decide +kernel) ?_ _
    clear hH
    clear cx0 cx1 cx2
    go_wp2_with fail
    refine (oF.out.on _).mono ?_
    rintro e w6 ⟨rfl, hb6⟩
    replace gx := Lib.hid (isN_of hb6 gx.out)
    replace hb := Lib.hid (hb.out.trans (hb6.mono hs))
    clear hs hb6
    have hs := hb.out.size
    go_wp2_with fail
    refine (sN.out.on _).mono ?_
    rintro e w7 ⟨rfl, hb7⟩
    replace gx := Lib.hid (isN_of hb7 gx.out)
    replace hb := Lib.hid (hb.out.trans (hb7.mono hs))
    clear hs hb7
    have hs := hb.out.size
    go_wp2_with fail
    refine (wW.out.on _).mono ?_
    rintro e w8 ⟨rfl, hb8⟩
    replace gx := Lib.hid (isN_of hb8 gx.out)
    replace hb := Lib.hid (hb.out.trans (hb8.mono hs))
    clear hs hb8
    have hs := hb.out.size
    go_wp2_with fail
    refine (oF.out.on _).mono ?_
    rintro e w9 ⟨rfl, hb9⟩
    replace gx := Lib.hid (isN_of hb9 gx.out)
    replace hb := Lib.hid (hb.out.trans (hb9.mono hs))
    clear hs hb9
    have hs := hb.out.size
    go_wp2_with fail
    refine (gN.out.on _).mono ?_
    rintro e w10 ⟨rfl, hb10⟩
    replace gx := Lib.hid (isN_of hb10 gx.out)
    replace hb := Lib.hid (hb.out.trans (hb10.mono hs))
    clear hs hb10
    have hs := hb.out.size
    go_wp2_with fail
    refine (cN.out.on _).mono ?_
    rintro e w11 ⟨rfl, hb11⟩
    replace gx := Lib.hid (isN_of hb11 gx.out)
    replace hb := Lib.hid (hb.out.trans (hb11.mono hs))
    clear hs hb11
    have hs := hb.out.size
    go_wp2_with fail
    go_ret
    exact ⟨rfl, hb.out⟩)

set_option maxRecDepth 100000 in
set_option maxHeartbeats 32000000 in
theorem texts_d (s : ByteArray) (n v : Int) (hs : s.size ≤ 100)  (cw : ∀ w : World, Calls Tryd.prog 9 #[] w fun e w' => e = .returned (.bool true) ∧ Below w.heap.size w w')
    (Yn : Bool) (Yh Yl Ye : Int) (kP : Ret 14 #[.string s] (.tuple #[wv ⟨Yn, Yh, Yl⟩, .int .i64 Ye])) (rP : Ret 15 #[.string s] (.tuple #[wv ⟨Yn, Yh, Yl⟩, .int .i64 Ye]))
    (t : ByteArray) (tX : Ret 16 #[wv ⟨true, 0, 9223372036854775808⟩] (.string t)) (rT : Ret 17 #[wv ⟨true, 0, 9223372036854775808⟩] (.string t))
    (k : Int) (sX : Ret 18 #[wv ⟨true, 0, 9223372036854775808⟩] (.tuple #[.int .i64 k, .bool true])) (gX : Ret 19 #[wv ⟨true, 0, 9223372036854775808⟩] (.bool true))
    (oK : Ret 20 #[.int .i64 k] (wv ⟨true, 0, 9223372036854775808⟩))
    (Mn : Bool) (Mh Ml c : Int) (oF : Ret 20 #[.int .i64 n] (wv ⟨Mn, Mh, Ml⟩)) (sN : Ret 18 #[wv ⟨Mn, Mh, Ml⟩] (.tuple #[.int .i64 n, .bool true]))
    (wW : Ret 21 #[.int .u64 v] (wv ⟨false, 0, v⟩)) (gN : Ret 22 #[wv ⟨Mn, Mh, Ml⟩] (.int .i64 c)) (cN : Ret 23 #[.int .i64 n] (.int .i64 c)) :
    Ret 5 #[wv ⟨true, 0, 9223372036854775808⟩, .string s, .int .i64 n, .int .u64 v] (.bool true) := fun w => by
  unfold wv at *
  dsimp only at *
  have hle : ¬ (100 : Int) < (s.size : Int) := by omega
  have hte : (t.toList == t.toList) = true := beq_self_eq_true _
  replace cw := Lib.hid cw
  replace kP := Lib.hid kP
  replace rP := Lib.hid rP
  replace tX := Lib.hid tX
  replace rT := Lib.hid rT
  replace sX := Lib.hid sX
  replace gX := Lib.hid gX
  replace oF := Lib.hid oF
  replace sN := Lib.hid sN
  replace wW := Lib.hid wW
  replace gN := Lib.hid gN
  replace cN := Lib.hid cN
  replace oK := Lib.hid oK
  go_enter Tryd.func5, Tryd.ntmps5
  go_wp2_with fail
  refine (cw.out _).mono ?_
  rintro e w1 ⟨rfl, hb1⟩
  obtain ⟨gx, hb⟩ := one_new (x := ⟨true, 0, 9223372036854775808⟩) hb1
  have hs := hb.size
  clear hb1
  replace gx := Lib.hid gx
  replace hb := Lib.hid hb
  obtain ⟨cx0, cx1, cx2⟩ := gx.out.all
  dsimp only at cx0 cx1 cx2
  go_wp2_with fail
  refine (kP.out.on _).mono ?_
  rintro e w2 ⟨rfl, hb2⟩
  replace gx := Lib.hid (isN_of hb2 gx.out)
  replace hb := Lib.hid (hb.out.trans (hb2.mono hs))
  clear hs hb2
  have hs := hb.out.size
  replace gx := Lib.hid (gx.out.alloc (oN ⟨Yn, Yh, Yl⟩))
  have gy := Lib.hid (IsN.new w2 ⟨Yn, Yh, Yl⟩)
  replace hb := Lib.hid (hb.out.alloc hs (oN ⟨Yn, Yh, Yl⟩))
  clear hs
  have hs := hb.out.size
  clear cx0 cx1 cx2
  obtain ⟨cx0, cx1, cx2⟩ := gx.out.all
  dsimp only at cx0 cx1 cx2
  go_wp2_with fail
  refine (rP.out.on _).mono ?_
  rintro e w3 ⟨rfl, hb3⟩
  replace gx := Lib.hid (isN_of hb3 gx.out)
  replace gy := Lib.hid (isN_of hb3 gy.out)
  replace hb := Lib.hid (hb.out.trans (hb3.mono hs))
  clear hs hb3
  have hs := hb.out.size
  replace gx := Lib.hid (gx.out.alloc (oN ⟨Yn, Yh, Yl⟩))
  replace gy := Lib.hid (gy.out.alloc (oN ⟨Yn, Yh, Yl⟩))
  have gz := Lib.hid (IsN.new w3 ⟨Yn, Yh, Yl⟩)
  replace hb := Lib.hid (hb.out.alloc hs (oN ⟨Yn, Yh, Yl⟩))
  clear hs
  have hs := hb.out.size
  replace hb := Lib.hid (below_drewed hb.out)
  clear hs
  have hs := hb.out.size
  clear cx0 cx1 cx2
  obtain ⟨cx0, cx1, cx2⟩ := gx.out.all
  obtain ⟨cy0, cy1, cy2⟩ := gy.out.all
  obtain ⟨cz0, cz1, cz2⟩ := gz.out.all
  dsimp only at cx0 cx1 cx2 cy0 cy1 cy2 cz0 cz1 cz2
  have mk0 := Lib.hid trivial
  have mk1 := Lib.hid trivial
  go_wp2_with fail
  go_region_held3 (fun w1 => w1.cell? ⟨w.heap.size, 0, none⟩ = some (.bool true) ∧ w1.cell? ⟨w.heap.size, 1, none⟩ = some (.int .u64 0) ∧ w1.cell? ⟨w.heap.size, 2, none⟩ = some (.int .u64 9223372036854775808) ∧ w1.cell? ⟨w2.heap.size, 0, none⟩ = some (.bool Yn) ∧ w1.cell? ⟨w2.heap.size, 1, none⟩ = some (.int .u64 Yh) ∧ w1.cell? ⟨w2.heap.size, 2, none⟩ = some (.int .u64 Yl) ∧ w1.cell? ⟨w3.heap.size, 0, none⟩ = some (.bool Yn) ∧ w1.cell? ⟨w3.heap.size, 1, none⟩ = some (.int .u64 Yh) ∧ w1.cell? ⟨w3.heap.size, 2, none⟩ = some (.int .u64 Yl)) (go_keep)
    (first
      | (go_at_call 16
         clear mk0
         refine (tX.out.on _).mono ?_
         rintro e wr ⟨rfl, hbr⟩
         have hb2 := Lib.hid (hb.out.trans (hbr.mono hs))
         clear hb hs
         have hb := hb2
         clear hb2
         have hs := hb.out.size
         have gg := Lib.hid (isN_of hbr gx.out)
         clear gx
         have gx := gg
         clear gg
         have gg := Lib.hid (isN_of hbr gy.out)
         clear gy
         have gy := gg
         clear gg
         have gg := Lib.hid (isN_of hbr gz.out)
         clear gz
         have gz := gg
         clear gg
         clear hbr cx0 cx1 cx2 cy0 cy1 cy2 cz0 cz1 cz2
         obtain ⟨cx0, cx1, cx2⟩ := gx.out.all
         obtain ⟨cy0, cy1, cy2⟩ := gy.out.all
         obtain ⟨cz0, cz1, cz2⟩ := gz.out.all
         dsimp only at cx0 cx1 cx2 cy0 cy1 cy2 cz0 cz1 cz2)
      | (go_at_call 17
         clear mk1
         refine (rT.out.on _).mono ?_
         rintro e wr ⟨rfl, hbr⟩
         have hb2 := Lib.hid (hb.out.trans (hbr.mono hs))
         clear hb hs
         have hb := hb2
         clear hb2
         have hs := hb.out.size
         have gg := Lib.hid (isN_of hbr gx.out)
         clear gx
         have gx := gg
         clear gg
         have gg := Lib.hid (isN_of hbr gy.out)
         clear gy
         have gy := gg
         clear gg
         have gg := Lib.hid (isN_of hbr gz.out)
         clear gz
         have gz := gg
         clear gg
         clear hbr cx0 cx1 cx2 cy0 cy1 cy2 cz0 cz1 cz2
         obtain ⟨cx0, cx1, cx2⟩ := gx.out.all
         obtain ⟨cy0, cy1, cy2⟩ := gy.out.all
         obtain ⟨cz0, cz1, cz2⟩ := gz.out.all
         dsimp only at cx0 cx1 cx2 cy0 cy1 cy2 cz0 cz1 cz2))
  all_goals (
    clear gy gz
    clear cy0 cy1 cy2 cz0 cz1 cz2 cx0 cx1 cx2
    (try clear mk0)
    (try clear mk1)
    obtain ⟨cx0, cx1, cx2⟩ := gx.out.all
    dsimp only at cx0 cx1 cx2
    go_wp2_with fail
    refine (sX.out.on _).mono ?_
    rintro e w4 ⟨rfl, hb4⟩
    replace gx := Lib.hid (isN_of hb4 gx.out)
    replace hb := Lib.hid (hb.out.trans (hb4.mono hs))
    clear hs hb4
    have hs := hb.out.size
    clear cx0 cx1 cx2
    obtain ⟨cx0, cx1, cx2⟩ := gx.out.all
    dsimp only at cx0 cx1 cx2
    go_wp2_with fail
    refine (gX.out.on _).mono ?_
    rintro e w5 ⟨rfl, hb5⟩
    replace gx := Lib.hid (isN_of hb5 gx.out)
    replace hb := Lib.hid (hb.out.trans (hb5.mono hs))
    clear hs hb5
    have hs := hb.out.size
    replace hb := Lib.hid (below_drewed hb.out)
    clear hs
    have hs := hb.out.size
    clear cx0 cx1 cx2
    obtain ⟨cx0, cx1, cx2⟩ := gx.out.all
    dsimp only at cx0 cx1 cx2
    go_wp2_with fail
    refine wp_region_held_at (S := fun w1 => w1.cell? ⟨w.heap.size, 0, none⟩ = some (.bool true) ∧ w1.cell? ⟨w.heap.size, 1, none⟩ = some (.int .u64 0) ∧ w1.cell? ⟨w.heap.size, 2, none⟩ = some (.int .u64 9223372036854775808)) 20 rfl (by kernel_rfl) (by go_keep) (fun hH => ?_)
    refine wpAnyH_take (i := 0) (v := ?_) rfl (by decide +kernel) (by decide +kernel) (by decide +kernel) (fun _ _ _ h => h) (Or.inl ⟨by rfl, ?_⟩) (by assumption) ?_
    rotate_left
    · intro w1 hSw; (try dsimp only at hSw); (try simp only [List.getElem_toArray, List.getElem_cons_zero]); go_simp; try with_reducible rfl
    try simp only [List.getElem_toArray, List.getElem_cons_zero, Act.put, List.setIfInBounds_toArray, List.set_cons_zero, List.set_cons_succ]
    refine wpAnyH_take (i := 1) (v := ?_) rfl (by decide +kernel) (by decide +kernel) (by decide +kernel) (fun _ _ _ h => h) (Or.inl ⟨by rfl, ?_⟩) (by assumption) ?_
    rotate_left
    · intro w1 hSw; (try dsimp only at hSw); (try simp only [List.getElem_toArray, List.getElem_cons_zero, List.getElem_cons_succ]); go_simp; try with_reducible rfl
    try simp only [List.getElem_toArray, List.getElem_cons_zero, List.getElem_cons_succ, Act.put, List.setIfInBounds_toArray, List.set_cons_zero, List.set_cons_succ]
    refine wpAnyH_take (i := 2) (v := ?_) rfl (by decide +kernel) (by decide +kernel) (by decide +kernel) (fun _ _ _ h => h) (Or.inl ⟨by rfl, ?_⟩) (by assumption) ?_
    rotate_left
    · intro w1 hSw; (try dsimp only at hSw); (try simp only [List.getElem_toArray, List.getElem_cons_zero, List.getElem_cons_succ]); go_simp; try with_reducible rfl
    try simp only [List.getElem_toArray, List.getElem_cons_zero, List.getElem_cons_succ, Act.put, List.setIfInBounds_toArray, List.set_cons_zero, List.set_cons_succ]
    refine wpAnyH_take (i := 3) (v := ?_) rfl (by decide +kernel) (by decide +kernel) (by decide +kernel) (fun _ _ _ h => h) (Or.inl ⟨by rfl, ?_⟩) (by assumption) ?_
    rotate_left
    · intro w1 hSw; (try dsimp only at hSw); (try simp only [List.getElem_toArray, List.getElem_cons_zero, List.getElem_cons_succ]); go_simp; try with_reducible rfl
    try simp only [List.getElem_toArray, List.getElem_cons_zero, List.getElem_cons_succ, Act.put, List.setIfInBounds_toArray, List.set_cons_zero, List.set_cons_succ]
    refine wpAnyH_take (i := 4) (v := ?_) rfl (by decide +kernel) (by decide +kernel) (by decide +kernel) (fun _ _ _ h => h) (Or.inl ⟨by rfl, ?_⟩) (by assumption) ?_
    rotate_left
    · intro w1 hSw; (try dsimp only at hSw); (try simp only [List.getElem_toArray, List.getElem_cons_zero, List.getElem_cons_succ]); go_simp; try with_reducible rfl
    try simp only [List.getElem_toArray, List.getElem_cons_zero, List.getElem_cons_succ, Act.put, List.setIfInBounds_toArray, List.set_cons_zero, List.set_cons_succ]
    refine wpAnyH_take (i := 5) (v := ?_) rfl (by decide +kernel) (by decide +kernel) (by decide +kernel) (fun _ _ _ h => h) (Or.inl ⟨by rfl, ?_⟩) (by assumption) ?_
    rotate_left
    · intro w1 hSw; (try dsimp only at hSw); (try simp only [List.getElem_toArray, List.getElem_cons_zero, List.getElem_cons_succ]); go_simp; try with_reducible rfl
    try simp only [List.getElem_toArray, List.getElem_cons_zero, List.getElem_cons_succ, Act.put, List.setIfInBounds_toArray, List.set_cons_zero, List.set_cons_succ]
    refine wpAnyH_take (i := 6) (v := ?_) rfl (by decide +kernel) (by decide +kernel) (by decide +kernel) (fun _ _ _ h => h) (Or.inl ⟨by rfl, ?_⟩) (by assumption) ?_
    rotate_left
    · intro w1 hSw; (try dsimp only at hSw); (try simp only [List.getElem_toArray, List.getElem_cons_zero, List.getElem_cons_succ]); go_simp; try with_reducible rfl
    try simp only [List.getElem_toArray, List.getElem_cons_zero, List.getElem_cons_succ, Act.put, List.setIfInBounds_toArray, List.set_cons_zero, List.set_cons_succ]
    refine wpAnyH_take (i := 7) (v := undef) rfl (by decide +kernel) (by decide +kernel) (by decide +kernel) (fun _ _ _ h => h) (Or.inr ⟨by rfl, rfl⟩) (by assumption) ?_
    try simp only [List.getElem_toArray, List.getElem_cons_zero, List.getElem_cons_succ, Act.put, List.setIfInBounds_toArray, List.set_cons_zero, List.set_cons_succ]
    refine wpAnyH_take (i := 8) (v := undef) rfl (by decide +kernel) (by decide +kernel) (by decide +kernel) (fun _ _ _ h => h) (Or.inr ⟨by rfl, rfl⟩) (by assumption) ?_
    try simp only [List.getElem_toArray, List.getElem_cons_zero, List.getElem_cons_succ, Act.put, List.setIfInBounds_toArray, List.set_cons_zero, List.set_cons_succ]
    refine wpAnyH_take (i := 9) (v := ?_) rfl (by decide +kernel) (by decide +kernel) (by decide +kernel) (fun _ _ _ h => h) (Or.inl ⟨by rfl, ?_⟩) (by assumption) ?_
    rotate_left
    · intro w1 hSw; (try dsimp only at hSw); (try simp only [List.getElem_toArray, List.getElem_cons_zero, List.getElem_cons_succ]); go_simp; try with_reducible rfl
    try simp only [List.getElem_toArray, List.getElem_cons_zero, List.getElem_cons_succ, Act.put, List.setIfInBounds_toArray, List.set_cons_zero, List.set_cons_succ]
    refine wpAnyH_take (i := 10) (v := ?_) rfl (by decide +kernel) (by decide +kernel) (by decide +kernel) (fun _ _ _ h => h) (Or.inl ⟨by rfl, ?_⟩) (by assumption) ?_
    rotate_left
    · intro w1 hSw; (try dsimp only at hSw); (try simp only [List.getElem_toArray, List.getElem_cons_zero, List.getElem_cons_succ]); go_simp; try with_reducible rfl
    try simp only [List.getElem_toArray, List.getElem_cons_zero, List.getElem_cons_succ, Act.put, List.setIfInBounds_toArray, List.set_cons_zero, List.set_cons_succ]
    refine wpAnyH_take (i := 11) (v := ?_) rfl (by decide +kernel) (by decide +kernel) (by decide +kernel) (fun _ _ _ h => h) (Or.inl ⟨by rfl, ?_⟩) (by assumption) ?_
    rotate_left
    · intro w1 hSw; (try dsimp only at hSw); (try simp only [List.getElem_toArray, List.getElem_cons_zero, List.getElem_cons_succ]); go_simp; try with_reducible rfl
    try simp only [List.getElem_toArray, List.getElem_cons_zero, List.getElem_cons_succ, Act.put, List.setIfInBounds_toArray, List.set_cons_zero, List.set_cons_succ]
    refine wpAnyH_take (i := 12) (v := ?_) rfl (by decide +kernel) (by decide +kernel) (by decide +kernel) (fun _ _ _ h => h) (Or.inl ⟨by rfl, ?_⟩) (by assumption) ?_
    rotate_left
    · intro w1 hSw; (try dsimp only at hSw); (try simp only [List.getElem_toArray, List.getElem_cons_zero, List.getElem_cons_succ]); go_simp; try with_reducible rfl
    try simp only [List.getElem_toArray, List.getElem_cons_zero, List.getElem_cons_succ, Act.put, List.setIfInBounds_toArray, List.set_cons_zero, List.set_cons_succ]
    refine wpAnyH_take (i := 13) (v := ?_) rfl (by decide +kernel) (by decide +kernel) (by decide +kernel) (fun _ _ _ h => h) (Or.inl ⟨by rfl, ?_⟩) (by assumption) ?_
    rotate_left
    · intro w1 hSw; (try dsimp only at hSw); (try simp only [List.getElem_toArray, List.getElem_cons_zero, List.getElem_cons_succ]); go_simp; try with_reducible rfl
    try simp only [List.getElem_toArray, List.getElem_cons_zero, List.getElem_cons_succ, Act.put, List.setIfInBounds_toArray, List.set_cons_zero, List.set_cons_succ]
    refine wpAnyH_take (i := 14) (v := ?_) rfl (by decide +kernel) (by decide +kernel) (by decide +kernel) (fun _ _ _ h => h) (Or.inl ⟨by rfl, ?_⟩) (by assumption) ?_
    rotate_left
    · intro w1 hSw; (try dsimp only at hSw); (try simp only [List.getElem_toArray, List.getElem_cons_zero, List.getElem_cons_succ]); go_simp; try with_reducible rfl
    try simp only [List.getElem_toArray, List.getElem_cons_zero, List.getElem_cons_succ, Act.put, List.setIfInBounds_toArray, List.set_cons_zero, List.set_cons_succ]
    refine wpAnyH_take (i := 16) (v := ?_) rfl (by decide +kernel) (by decide +kernel) (by decide +kernel) (fun _ _ _ h => h) (Or.inl ⟨by rfl, ?_⟩) (by assumption) ?_
    rotate_left
    · intro w1 hSw; (try dsimp only at hSw); (try simp only [List.getElem_toArray, List.getElem_cons_zero, List.getElem_cons_succ]); go_simp; try with_reducible rfl
    try simp only [List.getElem_toArray, List.getElem_cons_zero, List.getElem_cons_succ, Act.put, List.setIfInBounds_toArray, List.set_cons_zero, List.set_cons_succ]
    refine wpAnyH_ready (rs := [15]) (by decide +kernel) (by simp) ?_
    refine AllReadyH.cons rfl (fun K hK => ?_) AllReadyH.nil
    (try simp only [List.getElem_toArray, List.getElem_cons_zero, List.getElem_cons_succ])
    go_simp
    refine (oK.out.on _).mono ?_
    rintro e wr ⟨rfl, hbr⟩
    have hb2 := Lib.hid (hb.out.trans (hbr.mono hs))
    clear hb hs
    have hb := hb2
    clear hb2
    have hs := hb.out.size
    have gg := Lib.hid (isN_of hbr gx.out)
    clear gx
    have gx := gg
    clear gg
    clear hH hbr cx0 cx1 cx2
    obtain ⟨cx0, cx1, cx2⟩ := gx.out.all
    dsimp only at cx0 cx1 cx2
    go_simp
    refine hK.out _ _ (by go_keep) (fun hH => ?_)
    clear hK K
    try simp only [List.getElem_toArray, List.getElem_cons_zero, List.getElem_cons_succ, Act.put, List.setIfInBounds_toArray, List.set_cons_zero, List.set_cons_succ]
    refine wpAnyH_take (i := 17) (v := ?_) rfl (by decide +kernel) (by decide +kernel) (by decide +kernel) (fun _ _ _ h => h) (Or.inl ⟨by rfl, ?_⟩) (by assumption) ?_
    rotate_left
    · intro w1 hSw; (try dsimp only at hSw); (try simp only [List.getElem_toArray, List.getElem_cons_zero, List.getElem_cons_succ]); go_simp; try with_reducible rfl
    try simp only [List.getElem_toArray, List.getElem_cons_zero, List.getElem_cons_succ, Act.put, List.setIfInBounds_toArray, List.set_cons_zero, List.set_cons_succ]
    refine wpAnyH_take (i := 18) (v := ?_) rfl (by decide +kernel) (by decide +kernel) (by decide +kernel) (fun _ _ _ h => h) (Or.inl ⟨by rfl, ?_⟩) (by assumption) ?_
    rotate_left
    · intro w1 hSw; (try dsimp only at hSw); (try simp only [List.getElem_toArray, List.getElem_cons_zero, List.getElem_cons_succ]); go_simp; try with_reducible rfl
    try simp only [List.getElem_toArray, List.getElem_cons_zero, List.getElem_cons_succ, Act.put, List.setIfInBounds_toArray, List.set_cons_zero, List.set_cons_succ]
    refine wpAnyH_take (i := 19) (v := ?_) rfl (by decide +kernel) (by decide +kernel) (by decide +kernel) (fun _ _ _ h => h) (Or.inl ⟨by rfl, ?_⟩) (by assumption) ?_
    rotate_left
    · intro w1 hSw; (try dsimp only at hSw); (try simp only [List.getElem_toArray, List.getElem_cons_zero, List.getElem_cons_succ]); go_simp; try with_reducible rfl
    try simp only [List.getElem_toArray, List.getElem_cons_zero, List.getElem_cons_succ, Act.put, List.setIfInBounds_toArray, List.set_cons_zero, List.set_cons_succ]
    refine wpAnyH_done (by decide +kernel) ?_ _
    clear hH
    clear cx0 cx1 cx2
    go_wp2_with fail
    refine (oF.out.on _).mono ?_
    rintro e w6 ⟨rfl, hb6⟩
    replace gx := Lib.hid (isN_of hb6 gx.out)
    replace hb := Lib.hid (hb.out.trans (hb6.mono hs))
    clear hs hb6
    have hs := hb.out.size
    go_wp2_with fail
    refine (sN.out.on _).mono ?_
    rintro e w7 ⟨rfl, hb7⟩
    replace gx := Lib.hid (isN_of hb7 gx.out)
    replace hb := Lib.hid (hb.out.trans (hb7.mono hs))
    clear hs hb7
    have hs := hb.out.size
    go_wp2_with fail
    refine (wW.out.on _).mono ?_
    rintro e w8 ⟨rfl, hb8⟩
    replace gx := Lib.hid (isN_of hb8 gx.out)
    replace hb := Lib.hid (hb.out.trans (hb8.mono hs))
    clear hs hb8
    have hs := hb.out.size
    go_wp2_with fail
    refine (oF.out.on _).mono ?_
    rintro e w9 ⟨rfl, hb9⟩
    replace gx := Lib.hid (isN_of hb9 gx.out)
    replace hb := Lib.hid (hb.out.trans (hb9.mono hs))
    clear hs hb9
    have hs := hb.out.size
    go_wp2_with fail
    refine (gN.out.on _).mono ?_
    rintro e w10 ⟨rfl, hb10⟩
    replace gx := Lib.hid (isN_of hb10 gx.out)
    replace hb := Lib.hid (hb.out.trans (hb10.mono hs))
    clear hs hb10
    have hs := hb.out.size
    go_wp2_with fail
    refine (cN.out.on _).mono ?_
    rintro e w11 ⟨rfl, hb11⟩
    replace gx := Lib.hid (isN_of hb11 gx.out)
    replace hb := Lib.hid (hb.out.trans (hb11.mono hs))
    clear hs hb11
    have hs := hb.out.size
    go_wp2_with fail
    go_ret
    exact ⟨rfl, hb.out⟩)

set_option maxRecDepth 100000 in
set_option maxHeartbeats 32000000 in
theorem texts_e (s : ByteArray) (n v : Int) (hs : s.size ≤ 100)  (cw : ∀ w : World, Calls Tryd.prog 9 #[] w fun e w' => e = .returned (.bool true) ∧ Below w.heap.size w w')
    (Yn : Bool) (Yh Yl Ye : Int) (kP : Ret 14 #[.string s] (.tuple #[wv ⟨Yn, Yh, Yl⟩, .int .i64 Ye])) (rP : Ret 15 #[.string s] (.tuple #[wv ⟨Yn, Yh, Yl⟩, .int .i64 Ye]))
    (t : ByteArray) (tX : Ret 16 #[wv ⟨false, 0, 9223372036854775808⟩] (.string t)) (rT : Ret 17 #[wv ⟨false, 0, 9223372036854775808⟩] (.string t))
    (sX : Ret 18 #[wv ⟨false, 0, 9223372036854775808⟩] (.tuple #[.int .i64 0, .bool false])) (gX : Ret 19 #[wv ⟨false, 0, 9223372036854775808⟩] (.bool true))
    (Mn : Bool) (Mh Ml c : Int) (oF : Ret 20 #[.int .i64 n] (wv ⟨Mn, Mh, Ml⟩)) (sN : Ret 18 #[wv ⟨Mn, Mh, Ml⟩] (.tuple #[.int .i64 n, .bool true]))
    (wW : Ret 21 #[.int .u64 v] (wv ⟨false, 0, v⟩)) (gN : Ret 22 #[wv ⟨Mn, Mh, Ml⟩] (.int .i64 c)) (cN : Ret 23 #[.int .i64 n] (.int .i64 c)) :
    Ret 5 #[wv ⟨false, 0, 9223372036854775808⟩, .string s, .int .i64 n, .int .u64 v] (.bool true) := fun w => by
  unfold wv at *
  dsimp only at *
  have hle : ¬ (100 : Int) < (s.size : Int) := by omega
  have hte : (t.toList == t.toList) = true := beq_self_eq_true _
  replace cw := Lib.hid cw
  replace kP := Lib.hid kP
  replace rP := Lib.hid rP
  replace tX := Lib.hid tX
  replace rT := Lib.hid rT
  replace sX := Lib.hid sX
  replace gX := Lib.hid gX
  replace oF := Lib.hid oF
  replace sN := Lib.hid sN
  replace wW := Lib.hid wW
  replace gN := Lib.hid gN
  replace cN := Lib.hid cN
  go_enter Tryd.func5, Tryd.ntmps5
  go_wp2_with fail
  refine (cw.out _).mono ?_
  rintro e w1 ⟨rfl, hb1⟩
  obtain ⟨gx, hb⟩ := one_new (x := ⟨false, 0, 9223372036854775808⟩) hb1
  have hs := hb.size
  clear hb1
  replace gx := Lib.hid gx
  replace hb := Lib.hid hb
  obtain ⟨cx0, cx1, cx2⟩ := gx.out.all
  dsimp only at cx0 cx1 cx2
  go_wp2_with fail
  refine (kP.out.on _).mono ?_
  rintro e w2 ⟨rfl, hb2⟩
  replace gx := Lib.hid (isN_of hb2 gx.out)
  replace hb := Lib.hid (hb.out.trans (hb2.mono hs))
  clear hs hb2
  have hs := hb.out.size
  replace gx := Lib.hid (gx.out.alloc (oN ⟨Yn, Yh, Yl⟩))
  have gy := Lib.hid (IsN.new w2 ⟨Yn, Yh, Yl⟩)
  replace hb := Lib.hid (hb.out.alloc hs (oN ⟨Yn, Yh, Yl⟩))
  clear hs
  have hs := hb.out.size
  clear cx0 cx1 cx2
  obtain ⟨cx0, cx1, cx2⟩ := gx.out.all
  dsimp only at cx0 cx1 cx2
  go_wp2_with fail
  refine (rP.out.on _).mono ?_
  rintro e w3 ⟨rfl, hb3⟩
  replace gx := Lib.hid (isN_of hb3 gx.out)
  replace gy := Lib.hid (isN_of hb3 gy.out)
  replace hb := Lib.hid (hb.out.trans (hb3.mono hs))
  clear hs hb3
  have hs := hb.out.size
  replace gx := Lib.hid (gx.out.alloc (oN ⟨Yn, Yh, Yl⟩))
  replace gy := Lib.hid (gy.out.alloc (oN ⟨Yn, Yh, Yl⟩))
  have gz := Lib.hid (IsN.new w3 ⟨Yn, Yh, Yl⟩)
  replace hb := Lib.hid (hb.out.alloc hs (oN ⟨Yn, Yh, Yl⟩))
  clear hs
  have hs := hb.out.size
  replace hb := Lib.hid (below_drewed hb.out)
  clear hs
  have hs := hb.out.size
  clear cx0 cx1 cx2
  obtain ⟨cx0, cx1, cx2⟩ := gx.out.all
  obtain ⟨cy0, cy1, cy2⟩ := gy.out.all
  obtain ⟨cz0, cz1, cz2⟩ := gz.out.all
  dsimp only at cx0 cx1 cx2 cy0 cy1 cy2 cz0 cz1 cz2
  have mk0 := Lib.hid trivial
  have mk1 := Lib.hid trivial
  go_wp2_with fail
  go_region_held3 (fun w1 => w1.cell? ⟨w.heap.size, 0, none⟩ = some (.bool false) ∧ w1.cell? ⟨w.heap.size, 1, none⟩ = some (.int .u64 0) ∧ w1.cell? ⟨w.heap.size, 2, none⟩ = some (.int .u64 9223372036854775808) ∧ w1.cell? ⟨w2.heap.size, 0, none⟩ = some (.bool Yn) ∧ w1.cell? ⟨w2.heap.size, 1, none⟩ = some (.int .u64 Yh) ∧ w1.cell? ⟨w2.heap.size, 2, none⟩ = some (.int .u64 Yl) ∧ w1.cell? ⟨w3.heap.size, 0, none⟩ = some (.bool Yn) ∧ w1.cell? ⟨w3.heap.size, 1, none⟩ = some (.int .u64 Yh) ∧ w1.cell? ⟨w3.heap.size, 2, none⟩ = some (.int .u64 Yl)) (go_keep)
    (first
      | (go_at_call 16
         clear mk0
         refine (tX.out.on _).mono ?_
         rintro e wr ⟨rfl, hbr⟩
         have hb2 := Lib.hid (hb.out.trans (hbr.mono hs))
         clear hb hs
         have hb := hb2
         clear hb2
         have hs := hb.out.size
         have gg := Lib.hid (isN_of hbr gx.out)
         clear gx
         have gx := gg
         clear gg
         have gg := Lib.hid (isN_of hbr gy.out)
         clear gy
         have gy := gg
         clear gg
         have gg := Lib.hid (isN_of hbr gz.out)
         clear gz
         have gz := gg
         clear gg
         clear hbr cx0 cx1 cx2 cy0 cy1 cy2 cz0 cz1 cz2
         obtain ⟨cx0, cx1, cx2⟩ := gx.out.all
         obtain ⟨cy0, cy1, cy2⟩ := gy.out.all
         obtain ⟨cz0, cz1, cz2⟩ := gz.out.all
         dsimp only at cx0 cx1 cx2 cy0 cy1 cy2 cz0 cz1 cz2)
      | (go_at_call 17
         clear mk1
         refine (rT.out.on _).mono ?_
         rintro e wr ⟨rfl, hbr⟩
         have hb2 := Lib.hid (hb.out.trans (hbr.mono hs))
         clear hb hs
         have hb := hb2
         clear hb2
         have hs := hb.out.size
         have gg := Lib.hid (isN_of hbr gx.out)
         clear gx
         have gx := gg
         clear gg
         have gg := Lib.hid (isN_of hbr gy.out)
         clear gy
         have gy := gg
         clear gg
         have gg := Lib.hid (isN_of hbr gz.out)
         clear gz
         have gz := gg
         clear gg
         clear hbr cx0 cx1 cx2 cy0 cy1 cy2 cz0 cz1 cz2
         obtain ⟨cx0, cx1, cx2⟩ := gx.out.all
         obtain ⟨cy0, cy1, cy2⟩ := gy.out.all
         obtain ⟨cz0, cz1, cz2⟩ := gz.out.all
         dsimp only at cx0 cx1 cx2 cy0 cy1 cy2 cz0 cz1 cz2))
  all_goals (
    clear gy gz
    clear cy0 cy1 cy2 cz0 cz1 cz2 cx0 cx1 cx2
    (try clear mk0)
    (try clear mk1)
    obtain ⟨cx0, cx1, cx2⟩ := gx.out.all
    dsimp only at cx0 cx1 cx2
    go_wp2_with fail
    refine (sX.out.on _).mono ?_
    rintro e w4 ⟨rfl, hb4⟩
    replace gx := Lib.hid (isN_of hb4 gx.out)
    replace hb := Lib.hid (hb.out.trans (hb4.mono hs))
    clear hs hb4
    have hs := hb.out.size
    clear cx0 cx1 cx2
    obtain ⟨cx0, cx1, cx2⟩ := gx.out.all
    dsimp only at cx0 cx1 cx2
    go_wp2_with fail
    refine (gX.out.on _).mono ?_
    rintro e w5 ⟨rfl, hb5⟩
    replace gx := Lib.hid (isN_of hb5 gx.out)
    replace hb := Lib.hid (hb.out.trans (hb5.mono hs))
    clear hs hb5
    have hs := hb.out.size
    replace hb := Lib.hid (below_drewed hb.out)
    clear hs
    have hs := hb.out.size
    clear cx0 cx1 cx2
    obtain ⟨cx0, cx1, cx2⟩ := gx.out.all
    dsimp only at cx0 cx1 cx2
    go_wp2_with fail
    refine wp_region_held_at (S := fun w1 => w1.cell? ⟨w.heap.size, 0, none⟩ = some (.bool false) ∧ w1.cell? ⟨w.heap.size, 1, none⟩ = some (.int .u64 0) ∧ w1.cell? ⟨w.heap.size, 2, none⟩ = some (.int .u64 9223372036854775808)) 20 rfl (by kernel_rfl) (by go_keep) (fun hH => ?_)
    refine wpAnyH_take (i := 0) (v := ?_) rfl (by decide +kernel) (by decide +kernel) (by decide +kernel) (fun _ _ _ h => h) (Or.inl ⟨by rfl, ?_⟩) (by assumption) ?_
    rotate_left
    · intro w1 hSw; (try dsimp only at hSw); (try simp only [List.getElem_toArray, List.getElem_cons_zero]); go_simp; try with_reducible rfl
    try simp only [List.getElem_toArray, List.getElem_cons_zero, Act.put, List.setIfInBounds_toArray, List.set_cons_zero, List.set_cons_succ]
    refine wpAnyH_take (i := 1) (v := ?_) rfl (by decide +kernel) (by decide +kernel) (by decide +kernel) (fun _ _ _ h => h) (Or.inl ⟨by rfl, ?_⟩) (by assumption) ?_
    rotate_left
    · intro w1 hSw; (try dsimp only at hSw); (try simp only [List.getElem_toArray, List.getElem_cons_zero, List.getElem_cons_succ]); go_simp; try with_reducible rfl
    try simp only [List.getElem_toArray, List.getElem_cons_zero, List.getElem_cons_succ, Act.put, List.setIfInBounds_toArray, List.set_cons_zero, List.set_cons_succ]
    refine wpAnyH_take (i := 2) (v := ?_) rfl (by decide +kernel) (by decide +kernel) (by decide +kernel) (fun _ _ _ h => h) (Or.inl ⟨by rfl, ?_⟩) (by assumption) ?_
    rotate_left
    · intro w1 hSw; (try dsimp only at hSw); (try simp only [List.getElem_toArray, List.getElem_cons_zero, List.getElem_cons_succ]); go_simp; try with_reducible rfl
    try simp only [List.getElem_toArray, List.getElem_cons_zero, List.getElem_cons_succ, Act.put, List.setIfInBounds_toArray, List.set_cons_zero, List.set_cons_succ]
    refine wpAnyH_take (i := 3) (v := ?_) rfl (by decide +kernel) (by decide +kernel) (by decide +kernel) (fun _ _ _ h => h) (Or.inl ⟨by rfl, ?_⟩) (by assumption) ?_
    rotate_left
    · intro w1 hSw; (try dsimp only at hSw); (try simp only [List.getElem_toArray, List.getElem_cons_zero, List.getElem_cons_succ]); go_simp; try with_reducible rfl
    try simp only [List.getElem_toArray, List.getElem_cons_zero, List.getElem_cons_succ, Act.put, List.setIfInBounds_toArray, List.set_cons_zero, List.set_cons_succ]
    refine wpAnyH_take (i := 4) (v := ?_) rfl (by decide +kernel) (by decide +kernel) (by decide +kernel) (fun _ _ _ h => h) (Or.inl ⟨by rfl, ?_⟩) (by assumption) ?_
    rotate_left
    · intro w1 hSw; (try dsimp only at hSw); (try simp only [List.getElem_toArray, List.getElem_cons_zero, List.getElem_cons_succ]); go_simp; try with_reducible rfl
    try simp only [List.getElem_toArray, List.getElem_cons_zero, List.getElem_cons_succ, Act.put, List.setIfInBounds_toArray, List.set_cons_zero, List.set_cons_succ]
    refine wpAnyH_take (i := 5) (v := ?_) rfl (by decide +kernel) (by decide +kernel) (by decide +kernel) (fun _ _ _ h => h) (Or.inl ⟨by rfl, ?_⟩) (by assumption) ?_
    rotate_left
    · intro w1 hSw; (try dsimp only at hSw); (try simp only [List.getElem_toArray, List.getElem_cons_zero, List.getElem_cons_succ]); go_simp; try with_reducible rfl
    try simp only [List.getElem_toArray, List.getElem_cons_zero, List.getElem_cons_succ, Act.put, List.setIfInBounds_toArray, List.set_cons_zero, List.set_cons_succ]
    refine wpAnyH_take (i := 6) (v := ?_) rfl (by decide +kernel) (by decide +kernel) (by decide +kernel) (fun _ _ _ h => h) (Or.inl ⟨by rfl, ?_⟩) (by assumption) ?_
    rotate_left
    · intro w1 hSw; (try dsimp only at hSw); (try simp only [List.getElem_toArray, List.getElem_cons_zero, List.getElem_cons_succ]); go_simp; try with_reducible rfl
    try simp only [List.getElem_toArray, List.getElem_cons_zero, List.getElem_cons_succ, Act.put, List.setIfInBounds_toArray, List.set_cons_zero, List.set_cons_succ]
    refine wpAnyH_take (i := 7) (v := ?_) rfl (by decide +kernel) (by decide +kernel) (by decide +kernel) (fun _ _ _ h => h) (Or.inl ⟨by rfl, ?_⟩) (by assumption) ?_
    rotate_left
    · intro w1 hSw; (try dsimp only at hSw); (try simp only [List.getElem_toArray, List.getElem_cons_zero, List.getElem_cons_succ]); go_simp; try with_reducible rfl
    try simp only [List.getElem_toArray, List.getElem_cons_zero, List.getElem_cons_succ, Act.put, List.setIfInBounds_toArray, List.set_cons_zero, List.set_cons_succ]
    refine wpAnyH_take (i := 8) (v := ?_) rfl (by decide +kernel) (by decide +kernel) (by decide +kernel) (fun _ _ _ h => h) (Or.inl ⟨by rfl, ?_⟩) (by assumption) ?_
    rotate_left
    · intro w1 hSw; (try dsimp only at hSw); (try simp only [List.getElem_toArray, List.getElem_cons_zero, List.getElem_cons_succ]); go_simp; try with_reducible rfl
    try simp only [List.getElem_toArray, List.getElem_cons_zero, List.getElem_cons_succ, Act.put, List.setIfInBounds_toArray, List.set_cons_zero, List.set_cons_succ]
    refine wpAnyH_take (i := 9) (v := ?_) rfl (by decide +kernel) (by decide +kernel) (by decide +kernel) (fun _ _ _ h => h) (Or.inl ⟨by rfl, ?_⟩) (by assumption) ?_
    rotate_left
    · intro w1 hSw; (try dsimp only at hSw); (try simp only [List.getElem_toArray, List.getElem_cons_zero, List.getElem_cons_succ]); go_simp; try with_reducible rfl
    try simp only [List.getElem_toArray, List.getElem_cons_zero, List.getElem_cons_succ, Act.put, List.setIfInBounds_toArray, List.set_cons_zero, List.set_cons_succ]
    refine wpAnyH_take (i := 10) (v := ?_) rfl (by decide +kernel) (by decide +kernel) (by decide +kernel) (fun _ _ _ h => h) (Or.inl ⟨by rfl, ?_⟩) (by assumption) ?_
    rotate_left
    · intro w1 hSw; (try dsimp only at hSw); (try simp only [List.getElem_toArray, List.getElem_cons_zero, List.getElem_cons_succ]); go_simp; try with_reducible rfl
    try simp only [List.getElem_toArray, List.getElem_cons_zero, List.getElem_cons_succ, Act.put, List.setIfInBounds_toArray, List.set_cons_zero, List.set_cons_succ]
    refine wpAnyH_take (i := 11) (v := ?_) rfl (by decide +kernel) (by decide +kernel) (by decide +kernel) (fun _ _ _ h => h) (Or.inl ⟨by rfl, ?_⟩) (by assumption) ?_
    rotate_left
    · intro w1 hSw; (try dsimp only at hSw); (try simp only [List.getElem_toArray, List.getElem_cons_zero, List.getElem_cons_succ]); go_simp; try with_reducible rfl
    try simp only [List.getElem_toArray, List.getElem_cons_zero, List.getElem_cons_succ, Act.put, List.setIfInBounds_toArray, List.set_cons_zero, List.set_cons_succ]
    refine wpAnyH_take (i := 12) (v := ?_) rfl (by decide +kernel) (by decide +kernel) (by decide +kernel) (fun _ _ _ h => h) (Or.inl ⟨by rfl, ?_⟩) (by assumption) ?_
    rotate_left
    · intro w1 hSw; (try dsimp only at hSw); (try simp only [List.getElem_toArray, List.getElem_cons_zero, List.getElem_cons_succ]); go_simp; try with_reducible rfl
    try simp only [List.getElem_toArray, List.getElem_cons_zero, List.getElem_cons_succ, Act.put, List.setIfInBounds_toArray, List.set_cons_zero, List.set_cons_succ]
    refine wpAnyH_take (i := 13) (v := ?_) rfl (by decide +kernel) (by decide +kernel) (by decide +kernel) (fun _ _ _ h => h) (Or.inl ⟨by rfl, ?_⟩) (by assumption) ?_
    rotate_left
    · intro w1 hSw; (try dsimp only at hSw); (try simp only [List.getElem_toArray, List.getElem_cons_zero, List.getElem_cons_succ]); go_simp; try with_reducible rfl
    try simp only [List.getElem_toArray, List.getElem_cons_zero, List.getElem_cons_succ, Act.put, List.setIfInBounds_toArray, List.set_cons_zero, List.set_cons_succ]
    refine wpAnyH_take (i := 14) (v := undef) rfl (by decide +kernel) (by decide +kernel) (by decide +kernel) (fun _ _ _ h => h) (Or.inr ⟨by rfl, rfl⟩) (by assumption) ?_
    try simp only [List.getElem_toArray, List.getElem_cons_zero, List.getElem_cons_succ, Act.put, List.setIfInBounds_toArray, List.set_cons_zero, List.set_cons_succ]
    refine wpAnyH_take (i := 15) (v := undef) rfl (by decide +kernel) (by decide +kernel) (by decide +kernel) (fun _ _ _ h => h) (Or.inr ⟨by rfl, rfl⟩) (by assumption) ?_
    try simp only [List.getElem_toArray, List.getElem_cons_zero, List.getElem_cons_succ, Act.put, List.setIfInBounds_toArray, List.set_cons_zero, List.set_cons_succ]
    refine wpAnyH_take (i := 16) (v := undef) rfl (by decide +kernel) (by decide +kernel) (by decide +kernel) (fun _ _ _ h => h) (Or.inr ⟨by rfl, rfl⟩) (by assumption) ?_
    try simp only [List.getElem_toArray, List.getElem_cons_zero, List.getElem_cons_succ, Act.put, List.setIfInBounds_toArray, List.set_cons_zero, List.set_cons_succ]
    refine wpAnyH_take (i := 17) (v := undef) rfl (by decide +kernel) (by decide +kernel) (by decide +kernel) (fun _ _ _ h => h) (Or.inr ⟨by rfl, rfl⟩) (by assumption) ?_
    try simp only [List.getElem_toArray, List.getElem_cons_zero, List.getElem_cons_succ, Act.put, List.setIfInBounds_toArray, List.set_cons_zero, List.set_cons_succ]
    refine wpAnyH_take (i := 18) (v := ?_) rfl (by decide +kernel) (by decide +kernel) (by decide +kernel) (fun _ _ _ h => h) (Or.inl ⟨by rfl, ?_⟩) (by assumption) ?_
    rotate_left
    · intro w1 hSw; (try dsimp only at hSw); (try simp only [List.getElem_toArray, List.getElem_cons_zero, List.getElem_cons_succ]); go_simp; try with_reducible rfl
    try simp only [List.getElem_toArray, List.getElem_cons_zero, List.getElem_cons_succ, Act.put, List.setIfInBounds_toArray, List.set_cons_zero, List.set_cons_succ]
    refine wpAnyH_take (i := 19) (v := ?_) rfl (by decide +kernel) (by decide +kernel) (by decide +kernel) (fun _ _ _ h => h) (Or.inl ⟨by rfl, ?_⟩) (by assumption) ?_
    rotate_left
    · intro w1 hSw; (try dsimp only at hSw); (try simp only [List.getElem_toArray, List.getElem_cons_zero, List.getElem_cons_succ]); go_simp; try with_reducible rfl
    try simp only [List.getElem_toArray, List.getElem_cons_zero, List.getElem_cons_succ, Act.put, List.setIfInBounds_toArray, List.set_cons_zero, List.set_cons_succ]
    refine wpAnyH_done (by decide +kernel) ?_ _
    clear hH
    clear cx0 cx1 cx2
    go_wp2_with fail
    refine (oF.out.on _).mono ?_
    rintro e w6 ⟨rfl, hb6⟩
    replace gx := Lib.hid (isN_of hb6 gx.out)
    replace hb := Lib.hid (hb.out.trans (hb6.mono hs))
    clear hs hb6
    have hs := hb.out.size
    go_wp2_with fail
    refine (sN.out.on _).mono ?_
    rintro e w7 ⟨rfl, hb7⟩
    replace gx := Lib.hid (isN_of hb7 gx.out)
    replace hb := Lib.hid (hb.out.trans (hb7.mono hs))
    clear hs hb7
    have hs := hb.out.size
    go_wp2_with fail
    refine (wW.out.on _).mono ?_
    rintro e w8 ⟨rfl, hb8⟩
    replace gx := Lib.hid (isN_of hb8 gx.out)
    replace hb := Lib.hid (hb.out.trans (hb8.mono hs))
    clear hs hb8
    have hs := hb.out.size
    go_wp2_with fail
    refine (oF.out.on _).mono ?_
    rintro e w9 ⟨rfl, hb9⟩
    replace gx := Lib.hid (isN_of hb9 gx.out)
    replace hb := Lib.hid (hb.out.trans (hb9.mono hs))
    clear hs hb9
    have hs := hb.out.size
    go_wp2_with fail
    refine (gN.out.on _).mono ?_
    rintro e w10 ⟨rfl, hb10⟩
    replace gx := Lib.hid (isN_of hb10 gx.out)
    replace hb := Lib.hid (hb.out.trans (hb10.mono hs))
    clear hs hb10
    have hs := hb.out.size
    go_wp2_with fail
    refine (cN.out.on _).mono ?_
    rintro e w11 ⟨rfl, hb11⟩
    replace gx := Lib.hid (isN_of hb11 gx.out)
    replace hb := Lib.hid (hb.out.trans (hb11.mono hs))
    clear hs hb11
    have hs := hb.out.size
    go_wp2_with fail
    go_ret
    exact ⟨rfl, hb.out⟩)

set_option maxRecDepth 100000 in
set_option maxHeartbeats 32000000 in
theorem texts_p (xl : Int) (s : ByteArray) (n v : Int) (hs : s.size ≤ 100) (n2 : ¬ xl < 9223372036854775808) (n3 : (xl == 9223372036854775808) = false) (cw : ∀ w : World, Calls Tryd.prog 9 #[] w fun e w' => e = .returned (.bool true) ∧ Below w.heap.size w w')
    (Yn : Bool) (Yh Yl Ye : Int) (kP : Ret 14 #[.string s] (.tuple #[wv ⟨Yn, Yh, Yl⟩, .int .i64 Ye])) (rP : Ret 15 #[.string s] (.tuple #[wv ⟨Yn, Yh, Yl⟩, .int .i64 Ye]))
    (t : ByteArray) (tX : Ret 16 #[wv ⟨true, 0, xl⟩] (.string t)) (rT : Ret 17 #[wv ⟨true, 0, xl⟩] (.string t))
    (sX : Ret 18 #[wv ⟨true, 0, xl⟩] (.tuple #[.int .i64 0, .bool false])) (gX : Ret 19 #[wv ⟨true, 0, xl⟩] (.bool true))
    (Mn : Bool) (Mh Ml c : Int) (oF : Ret 20 #[.int .i64 n] (wv ⟨Mn, Mh, Ml⟩)) (sN : Ret 18 #[wv ⟨Mn, Mh, Ml⟩] (.tuple #[.int .i64 n, .bool true]))
    (wW : Ret 21 #[.int .u64 v] (wv ⟨false, 0, v⟩)) (gN : Ret 22 #[wv ⟨Mn, Mh, Ml⟩] (.int .i64 c)) (cN : Ret 23 #[.int .i64 n] (.int .i64 c)) :
    Ret 5 #[wv ⟨true, 0, xl⟩, .string s, .int .i64 n, .int .u64 v] (.bool true) := fun w => by
  unfold wv at *
  dsimp only at *
  have hle : ¬ (100 : Int) < (s.size : Int) := by omega
  have hte : (t.toList == t.toList) = true := beq_self_eq_true _
  have n4 : decide (xl < 9223372036854775808) = false := decide_eq_false n2
  replace cw := Lib.hid cw
  replace kP := Lib.hid kP
  replace rP := Lib.hid rP
  replace tX := Lib.hid tX
  replace rT := Lib.hid rT
  replace sX := Lib.hid sX
  replace gX := Lib.hid gX
  replace oF := Lib.hid oF
  replace sN := Lib.hid sN
  replace wW := Lib.hid wW
  replace gN := Lib.hid gN
  replace cN := Lib.hid cN
  go_enter Tryd.func5, Tryd.ntmps5
  go_wp2_with fail
  refine (cw.out _).mono ?_
  rintro e w1 ⟨rfl, hb1⟩
  obtain ⟨gx, hb⟩ := one_new (x := ⟨true, 0, xl⟩) hb1
  have hs := hb.size
  clear hb1
  replace gx := Lib.hid gx
  replace hb := Lib.hid hb
  obtain ⟨cx0, cx1, cx2⟩ := gx.out.all
  dsimp only at cx0 cx1 cx2
  go_wp2_with fail
  refine (kP.out.on _).mono ?_
  rintro e w2 ⟨rfl, hb2⟩
  replace gx := Lib.hid (isN_of hb2 gx.out)
  replace hb := Lib.hid (hb.out.trans (hb2.mono hs))
  clear hs hb2
  have hs := hb.out.size
  replace gx := Lib.hid (gx.out.alloc (oN ⟨Yn, Yh, Yl⟩))
  have gy := Lib.hid (IsN.new w2 ⟨Yn, Yh, Yl⟩)
  replace hb := Lib.hid (hb.out.alloc hs (oN ⟨Yn, Yh, Yl⟩))
  clear hs
  have hs := hb.out.size
  clear cx0 cx1 cx2
  obtain ⟨cx0, cx1, cx2⟩ := gx.out.all
  dsimp only at cx0 cx1 cx2
  go_wp2_with fail
  refine (rP.out.on _).mono ?_
  rintro e w3 ⟨rfl, hb3⟩
  replace gx := Lib.hid (isN_of hb3 gx.out)
  replace gy := Lib.hid (isN_of hb3 gy.out)
  replace hb := Lib.hid (hb.out.trans (hb3.mono hs))
  clear hs hb3
  have hs := hb.out.size
  replace gx := Lib.hid (gx.out.alloc (oN ⟨Yn, Yh, Yl⟩))
  replace gy := Lib.hid (gy.out.alloc (oN ⟨Yn, Yh, Yl⟩))
  have gz := Lib.hid (IsN.new w3 ⟨Yn, Yh, Yl⟩)
  replace hb := Lib.hid (hb.out.alloc hs (oN ⟨Yn, Yh, Yl⟩))
  clear hs
  have hs := hb.out.size
  replace hb := Lib.hid (below_drewed hb.out)
  clear hs
  have hs := hb.out.size
  clear cx0 cx1 cx2
  obtain ⟨cx0, cx1, cx2⟩ := gx.out.all
  obtain ⟨cy0, cy1, cy2⟩ := gy.out.all
  obtain ⟨cz0, cz1, cz2⟩ := gz.out.all
  dsimp only at cx0 cx1 cx2 cy0 cy1 cy2 cz0 cz1 cz2
  have mk0 := Lib.hid trivial
  have mk1 := Lib.hid trivial
  go_wp2_with fail
  go_region_held3 (fun w1 => w1.cell? ⟨w.heap.size, 0, none⟩ = some (.bool true) ∧ w1.cell? ⟨w.heap.size, 1, none⟩ = some (.int .u64 0) ∧ w1.cell? ⟨w.heap.size, 2, none⟩ = some (.int .u64 xl) ∧ w1.cell? ⟨w2.heap.size, 0, none⟩ = some (.bool Yn) ∧ w1.cell? ⟨w2.heap.size, 1, none⟩ = some (.int .u64 Yh) ∧ w1.cell? ⟨w2.heap.size, 2, none⟩ = some (.int .u64 Yl) ∧ w1.cell? ⟨w3.heap.size, 0, none⟩ = some (.bool Yn) ∧ w1.cell? ⟨w3.heap.size, 1, none⟩ = some (.int .u64 Yh) ∧ w1.cell? ⟨w3.heap.size, 2, none⟩ = some (.int .u64 Yl)) (go_keep)
    (first
      | (go_at_call 16
         clear mk0
         refine (tX.out.on _).mono ?_
         rintro e wr ⟨rfl, hbr⟩
         have hb2 := Lib.hid (hb.out.trans (hbr.mono hs))
         clear hb hs
         have hb := hb2
         clear hb2
         have hs := hb.out.size
         have gg := Lib.hid (isN_of hbr gx.out)
         clear gx
         have gx := gg
         clear gg
         have gg := Lib.hid (isN_of hbr gy.out)
         clear gy
         have gy := gg
         clear gg
         have gg := Lib.hid (isN_of hbr gz.out)
         clear gz
         have gz := gg
         clear gg
         clear hbr cx0 cx1 cx2 cy0 cy1 cy2 cz0 cz1 cz2
         obtain ⟨cx0, cx1, cx2⟩ := gx.out.all
         obtain ⟨cy0, cy1, cy2⟩ := gy.out.all
         obtain ⟨cz0, cz1, cz2⟩ := gz.out.all
         dsimp only at cx0 cx1 cx2 cy0 cy1 cy2 cz0 cz1 cz2)
      | (go_at_call 17
         clear mk1
         refine (rT.out.on _).mono ?_
         rintro e wr ⟨rfl, hbr⟩
         have hb2 := Lib.hid (hb.out.trans (hbr.mono hs))
         clear hb hs
         have hb := hb2
         clear hb2
         have hs := hb.out.size
         have gg := Lib.hid (isN_of hbr gx.out)
         clear gx
         have gx := gg
         clear gg
         have gg := Lib.hid (isN_of hbr gy.out)
         clear gy
         have gy := gg
         clear gg
         have gg := Lib.hid (isN_of hbr gz.out)
         clear gz
         have gz := gg
         clear gg
         clear hbr cx0 cx1 cx2 cy0 cy1 cy2 cz0 cz1 cz2
         obtain ⟨cx0, cx1, cx2⟩ := gx.out.all
         obtain ⟨cy0, cy1, cy2⟩ := gy.out.all
         obtain ⟨cz0, cz1, cz2⟩ := gz.out.all
         dsimp only at cx0 cx1 cx2 cy0 cy1 cy2 cz0 cz1 cz2))
  all_goals (
    clear gy gz
    clear cy0 cy1 cy2 cz0 cz1 cz2 cx0 cx1 cx2
    (try clear mk0)
    (try clear mk1)
    obtain ⟨cx0, cx1, cx2⟩ := gx.out.all
    dsimp only at cx0 cx1 cx2
    go_wp2_with fail
    refine (sX.out.on _).mono ?_
    rintro e w4 ⟨rfl, hb4⟩
    replace gx := Lib.hid (isN_of hb4 gx.out)
    replace hb := Lib.hid (hb.out.trans (hb4.mono hs))
    clear hs hb4
    have hs := hb.out.size
    clear cx0 cx1 cx2
    obtain ⟨cx0, cx1, cx2⟩ := gx.out.all
    dsimp only at cx0 cx1 cx2
    go_wp2_with fail
    refine (gX.out.on _).mono ?_
    rintro e w5 ⟨rfl, hb5⟩
    replace gx := Lib.hid (isN_of hb5 gx.out)
    replace hb := Lib.hid (hb.out.trans (hb5.mono hs))
    clear hs hb5
    have hs := hb.out.size
    replace hb := Lib.hid (below_drewed hb.out)
    clear hs
    have hs := hb.out.size
    clear cx0 cx1 cx2
    obtain ⟨cx0, cx1, cx2⟩ := gx.out.all
    dsimp only at cx0 cx1 cx2
    go_wp2_with fail
    refine wp_region_held_at (S := fun w1 => w1.cell? ⟨w.heap.size, 0, none⟩ = some (.bool true) ∧ w1.cell? ⟨w.heap.size, 1, none⟩ = some (.int .u64 0) ∧ w1.cell? ⟨w.heap.size, 2, none⟩ = some (.int .u64 xl)) 20 rfl (by kernel_rfl) (by go_keep) (fun hH => ?_)
    refine wpAnyH_take (i := 0) (v := ?_) rfl (by decide +kernel) (by decide +kernel) (by decide +kernel) (fun _ _ _ h => h) (Or.inl ⟨by rfl, ?_⟩) (by assumption) ?_
    rotate_left
    · intro w1 hSw; (try dsimp only at hSw); (try simp only [List.getElem_toArray, List.getElem_cons_zero]); go_simp; try with_reducible rfl
    try simp only [List.getElem_toArray, List.getElem_cons_zero, Act.put, List.setIfInBounds_toArray, List.set_cons_zero, List.set_cons_succ]
    refine wpAnyH_take (i := 1) (v := ?_) rfl (by decide +kernel) (by decide +kernel) (by decide +kernel) (fun _ _ _ h => h) (Or.inl ⟨by rfl, ?_⟩) (by assumption) ?_
    rotate_left
    · intro w1 hSw; (try dsimp only at hSw); (try simp only [List.getElem_toArray, List.getElem_cons_zero, List.getElem_cons_succ]); go_simp; try with_reducible rfl
    try simp only [List.getElem_toArray, List.getElem_cons_zero, List.getElem_cons_succ, Act.put, List.setIfInBounds_toArray, List.set_cons_zero, List.set_cons_succ]
    refine wpAnyH_take (i := 2) (v := ?_) rfl (by decide +kernel) (by decide +kernel) (by decide +kernel) (fun _ _ _ h => h) (Or.inl ⟨by rfl, ?_⟩) (by assumption) ?_
    rotate_left
    · intro w1 hSw; (try dsimp only at hSw); (try simp only [List.getElem_toArray, List.getElem_cons_zero, List.getElem_cons_succ]); go_simp; try with_reducible rfl
    try simp only [List.getElem_toArray, List.getElem_cons_zero, List.getElem_cons_succ, Act.put, List.setIfInBounds_toArray, List.set_cons_zero, List.set_cons_succ]
    refine wpAnyH_take (i := 3) (v := ?_) rfl (by decide +kernel) (by decide +kernel) (by decide +kernel) (fun _ _ _ h => h) (Or.inl ⟨by rfl, ?_⟩) (by assumption) ?_
    rotate_left
    · intro w1 hSw; (try dsimp only at hSw); (try simp only [List.getElem_toArray, List.getElem_cons_zero, List.getElem_cons_succ]); go_simp; try with_reducible rfl
    try simp only [List.getElem_toArray, List.getElem_cons_zero, List.getElem_cons_succ, Act.put, List.setIfInBounds_toArray, List.set_cons_zero, List.set_cons_succ]
    refine wpAnyH_take (i := 4) (v := ?_) rfl (by decide +kernel) (by decide +kernel) (by decide +kernel) (fun _ _ _ h => h) (Or.inl ⟨by rfl, ?_⟩) (by assumption) ?_
    rotate_left
    · intro w1 hSw; (try dsimp only at hSw); (try simp only [List.getElem_toArray, List.getElem_cons_zero, List.getElem_cons_succ]); go_simp; try with_reducible rfl
    try simp only [List.getElem_toArray, List.getElem_cons_zero, List.getElem_cons_succ, Act.put, List.setIfInBounds_toArray, List.set_cons_zero, List.set_cons_succ]
    refine wpAnyH_take (i := 5) (v := ?_) rfl (by decide +kernel) (by decide +kernel) (by decide +kernel) (fun _ _ _ h => h) (Or.inl ⟨by rfl, ?_⟩) (by assumption) ?_
    rotate_left
    · intro w1 hSw; (try dsimp only at hSw); (try simp only [List.getElem_toArray, List.getElem_cons_zero, List.getElem_cons_succ]); go_simp; try with_reducible rfl
    try simp only [List.getElem_toArray, List.getElem_cons_zero, List.getElem_cons_succ, Act.put, List.setIfInBounds_toArray, List.set_cons_zero, List.set_cons_succ]
    refine wpAnyH_take (i := 6) (v := ?_) rfl (by decide +kernel) (by decide +kernel) (by decide +kernel) (fun _ _ _ h => h) (Or.inl ⟨by rfl, ?_⟩) (by assumption) ?_
    rotate_left
    · intro w1 hSw; (try dsimp only at hSw); (try simp only [List.getElem_toArray, List.getElem_cons_zero, List.getElem_cons_succ]); go_simp; try with_reducible rfl
    try simp only [List.getElem_toArray, List.getElem_cons_zero, List.getElem_cons_succ, Act.put, List.setIfInBounds_toArray, List.set_cons_zero, List.set_cons_succ]
    refine wpAnyH_take (i := 7) (v := ?_) rfl (by decide +kernel) (by decide +kernel) (by decide +kernel) (fun _ _ _ h => h) (Or.inl ⟨by rfl, ?_⟩) (by assumption) ?_
    rotate_left
    · intro w1 hSw; (try dsimp only at hSw); (try simp only [List.getElem_toArray, List.getElem_cons_zero, List.getElem_cons_succ]); go_simp; try with_reducible rfl
    try simp only [List.getElem_toArray, List.getElem_cons_zero, List.getElem_cons_succ, Act.put, List.setIfInBounds_toArray, List.set_cons_zero, List.set_cons_succ]
    refine wpAnyH_take (i := 8) (v := ?_) rfl (by decide +kernel) (by decide +kernel) (by decide +kernel) (fun _ _ _ h => h) (Or.inl ⟨by rfl, ?_⟩) (by assumption) ?_
    rotate_left
    · intro w1 hSw; (try dsimp only at hSw); (try simp only [List.getElem_toArray, List.getElem_cons_zero, List.getElem_cons_succ]); go_simp; try with_reducible rfl
    try simp only [List.getElem_toArray, List.getElem_cons_zero, List.getElem_cons_succ, Act.put, List.setIfInBounds_toArray, List.set_cons_zero, List.set_cons_succ]
    refine wpAnyH_take (i := 9) (v := ?_) rfl (by decide +kernel) (by decide +kernel) (by decide +kernel) (fun _ _ _ h => h) (Or.inl ⟨by rfl, ?_⟩) (by assumption) ?_
    rotate_left
    · intro w1 hSw; (try dsimp only at hSw); (try simp only [List.getElem_toArray, List.getElem_cons_zero, List.getElem_cons_succ]); go_simp; try with_reducible rfl
    try simp only [List.getElem_toArray, List.getElem_cons_zero, List.getElem_cons_succ, Act.put, List.setIfInBounds_toArray, List.set_cons_zero, List.set_cons_succ]
    refine wpAnyH_take (i := 10) (v := ?_) rfl (by decide +kernel) (by decide +kernel) (by decide +kernel) (fun _ _ _ h => h) (Or.inl ⟨by rfl, ?_⟩) (by assumption) ?_
    rotate_left
    · intro w1 hSw; (try dsimp only at hSw); (try simp only [List.getElem_toArray, List.getElem_cons_zero, List.getElem_cons_succ]); go_simp; try with_reducible rfl
    try simp only [List.getElem_toArray, List.getElem_cons_zero, List.getElem_cons_succ, Act.put, List.setIfInBounds_toArray, List.set_cons_zero, List.set_cons_succ]
    refine wpAnyH_take (i := 11) (v := ?_) rfl (by decide +kernel) (by decide +kernel) (by decide +kernel) (fun _ _ _ h => h) (Or.inl ⟨by rfl, ?_⟩) (by assumption) ?_
    rotate_left
    · intro w1 hSw; (try dsimp only at hSw); (try simp only [List.getElem_toArray, List.getElem_cons_zero, List.getElem_cons_succ]); go_simp; try with_reducible rfl
    try simp only [List.getElem_toArray, List.getElem_cons_zero, List.getElem_cons_succ, Act.put, List.setIfInBounds_toArray, List.set_cons_zero, List.set_cons_succ]
    refine wpAnyH_take (i := 12) (v := ?_) rfl (by decide +kernel) (by decide +kernel) (by decide +kernel) (fun _ _ _ h => h) (Or.inl ⟨by rfl, ?_⟩) (by assumption) ?_
    rotate_left
    · intro w1 hSw; (try dsimp only at hSw); (try simp only [List.getElem_toArray, List.getElem_cons_zero, List.getElem_cons_succ]); go_simp; try with_reducible rfl
    try simp only [List.getElem_toArray, List.getElem_cons_zero, List.getElem_cons_succ, Act.put, List.setIfInBounds_toArray, List.set_cons_zero, List.set_cons_succ]
    refine wpAnyH_take (i := 13) (v := ?_) rfl (by decide +kernel) (by decide +kernel) (by decide +kernel) (fun _ _ _ h => h) (Or.inl ⟨by rfl, ?_⟩) (by assumption) ?_
    rotate_left
    · intro w1 hSw; (try dsimp only at hSw); (try simp only [List.getElem_toArray, List.getElem_cons_zero, List.getElem_cons_succ]); go_simp; try with_reducible rfl
    try simp only [List.getElem_toArray, List.getElem_cons_zero, List.getElem_cons_succ, Act.put, List.setIfInBounds_toArray, List.set_cons_zero, List.set_cons_succ]
    refine wpAnyH_take (i := 14) (v := undef) rfl (by decide +kernel) (by decide +kernel) (by decide +kernel) (fun _ _ _ h => h) (Or.inr ⟨by rfl, rfl⟩) (by assumption) ?_
    try simp only [List.getElem_toArray, List.getElem_cons_zero, List.getElem_cons_succ, Act.put, List.setIfInBounds_toArray, List.set_cons_zero, List.set_cons_succ]
    refine wpAnyH_take (i := 15) (v := undef) rfl (by decide +kernel) (by decide +kernel) (by decide +kernel) (fun _ _ _ h => h) (Or.inr ⟨by rfl, rfl⟩) (by assumption) ?_
    try simp only [List.getElem_toArray, List.getElem_cons_zero, List.getElem_cons_succ, Act.put, List.setIfInBounds_toArray, List.set_cons_zero, List.set_cons_succ]
    refine wpAnyH_take (i := 16) (v := undef) rfl (by decide +kernel) (by decide +kernel) (by decide +kernel) (fun _ _ _ h => h) (Or.inr ⟨by rfl, rfl⟩) (by assumption) ?_
    try simp only [List.getElem_toArray, List.getElem_cons_zero, List.getElem_cons_succ, Act.put, List.setIfInBounds_toArray, List.set_cons_zero, List.set_cons_succ]
    refine wpAnyH_take (i := 17) (v := undef) rfl (by decide +kernel) (by decide +kernel) (by decide +kernel) (fun _ _ _ h => h) (Or.inr ⟨by rfl, rfl⟩) (by assumption) ?_
    try simp only [List.getElem_toArray, List.getElem_cons_zero, List.getElem_cons_succ, Act.put, List.setIfInBounds_toArray, List.set_cons_zero, List.set_cons_succ]
    refine wpAnyH_take (i := 18) (v := ?_) rfl (by decide +kernel) (by decide +kernel) (by decide +kernel) (fun _ _ _ h => h) (Or.inl ⟨by rfl, ?_⟩) (by assumption) ?_
    rotate_left
    · intro w1 hSw; (try dsimp only at hSw); (try simp only [List.getElem_toArray, List.getElem_cons_zero, List.getElem_cons_succ]); go_simp; try with_reducible rfl
    try simp only [List.getElem_toArray, List.getElem_cons_zero, List.getElem_cons_succ, Act.put, List.setIfInBounds_toArray, List.set_cons_zero, List.set_cons_succ]
    refine wpAnyH_take (i := 19) (v := ?_) rfl (by decide +kernel) (by decide +kernel) (by decide +kernel) (fun _ _ _ h => h) (Or.inl ⟨by rfl, ?_⟩) (by assumption) ?_
    rotate_left
    · intro w1 hSw; (try dsimp only at hSw); (try simp only [List.getElem_toArray, List.getElem_cons_zero, List.getElem_cons_succ]); go_simp; try with_reducible rfl
    try simp only [List.getElem_toArray, List.getElem_cons_zero, List.getElem_cons_succ, Act.put, List.setIfInBounds_toArray, List.set_cons_zero, List.set_cons_succ]
    refine wpAnyH_done (by decide +kernel) ?_ _
    clear hH
    clear cx0 cx1 cx2
    go_wp2_with fail
    refine (oF.out.on _).mono ?_
    rintro e w6 ⟨rfl, hb6⟩
    replace gx := Lib.hid (isN_of hb6 gx.out)
    replace hb := Lib.hid (hb.out.trans (hb6.mono hs))
    clear hs hb6
    have hs := hb.out.size
    go_wp2_with fail
    refine (sN.out.on _).mono ?_
    rintro e w7 ⟨rfl, hb7⟩
    replace gx := Lib.hid (isN_of hb7 gx.out)
    replace hb := Lib.hid (hb.out.trans (hb7.mono hs))
    clear hs hb7
    have hs := hb.out.size
    go_wp2_with fail
    refine (wW.out.on _).mono ?_
    rintro e w8 ⟨rfl, hb8⟩
    replace gx := Lib.hid (isN_of hb8 gx.out)
    replace hb := Lib.hid (hb.out.trans (hb8.mono hs))
    clear hs hb8
    have hs := hb.out.size
    go_wp2_with fail
    refine (oF.out.on _).mono ?_
    rintro e w9 ⟨rfl, hb9⟩
    replace gx := Lib.hid (isN_of hb9 gx.out)
    replace hb := Lib.hid (hb.out.trans (hb9.mono hs))
    clear hs hb9
    have hs := hb.out.size
    go_wp2_with fail
    refine (gN.out.on _).mono ?_
    rintro e w10 ⟨rfl, hb10⟩
    replace gx := Lib.hid (isN_of hb10 gx.out)
    replace hb := Lib.hid (hb.out.trans (hb10.mono hs))
    clear hs hb10
    have hs := hb.out.size
    go_wp2_with fail
    refine (cN.out.on _).mono ?_
    rintro e w11 ⟨rfl, hb11⟩
    replace gx := Lib.hid (isN_of hb11 gx.out)
    replace hb := Lib.hid (hb.out.trans (hb11.mono hs))
    clear hs hb11
    have hs := hb.out.size
    go_wp2_with fail
    go_ret
    exact ⟨rfl, hb.out⟩)

set_option maxRecDepth 100000 in
set_option maxHeartbeats 32000000 in
theorem texts_q (xl : Int) (s : ByteArray) (n v : Int) (hs : s.size ≤ 100) (n2 : ¬ xl < 9223372036854775808) (cw : ∀ w : World, Calls Tryd.prog 9 #[] w fun e w' => e = .returned (.bool true) ∧ Below w.heap.size w w')
    (Yn : Bool) (Yh Yl Ye : Int) (kP : Ret 14 #[.string s] (.tuple #[wv ⟨Yn, Yh, Yl⟩, .int .i64 Ye])) (rP : Ret 15 #[.string s] (.tuple #[wv ⟨Yn, Yh, Yl⟩, .int .i64 Ye]))
    (t : ByteArray) (tX : Ret 16 #[wv ⟨false, 0, xl⟩] (.string t)) (rT : Ret 17 #[wv ⟨false, 0, xl⟩] (.string t))
    (sX : Ret 18 #[wv ⟨false, 0, xl⟩] (.tuple #[.int .i64 0, .bool false])) (gX : Ret 19 #[wv ⟨false, 0, xl⟩] (.bool true))
    (Mn : Bool) (Mh Ml c : Int) (oF : Ret 20 #[.int .i64 n] (wv ⟨Mn, Mh, Ml⟩)) (sN : Ret 18 #[wv ⟨Mn, Mh, Ml⟩] (.tuple #[.int .i64 n, .bool true]))
    (wW : Ret 21 #[.int .u64 v] (wv ⟨false, 0, v⟩)) (gN : Ret 22 #[wv ⟨Mn, Mh, Ml⟩] (.int .i64 c)) (cN : Ret 23 #[.int .i64 n] (.int .i64 c)) :
    Ret 5 #[wv ⟨false, 0, xl⟩, .string s, .int .i64 n, .int .u64 v] (.bool true) := fun w => by
  unfold wv at *
  dsimp only at *
  have hle : ¬ (100 : Int) < (s.size : Int) := by omega
  have hte : (t.toList == t.toList) = true := beq_self_eq_true _
  have n4 : decide (xl < 9223372036854775808) = false := decide_eq_false n2
  replace cw := Lib.hid cw
  replace kP := Lib.hid kP
  replace rP := Lib.hid rP
  replace tX := Lib.hid tX
  replace rT := Lib.hid rT
  replace sX := Lib.hid sX
  replace gX := Lib.hid gX
  replace oF := Lib.hid oF
  replace sN := Lib.hid sN
  replace wW := Lib.hid wW
  replace gN := Lib.hid gN
  replace cN := Lib.hid cN
  go_enter Tryd.func5, Tryd.ntmps5
  go_wp2_with fail
  refine (cw.out _).mono ?_
  rintro e w1 ⟨rfl, hb1⟩
  obtain ⟨gx, hb⟩ := one_new (x := ⟨false, 0, xl⟩) hb1
  have hs := hb.size
  clear hb1
  replace gx := Lib.hid gx
  replace hb := Lib.hid hb
  obtain ⟨cx0, cx1, cx2⟩ := gx.out.all
  dsimp only at cx0 cx1 cx2
  go_wp2_with fail
  refine (kP.out.on _).mono ?_
  rintro e w2 ⟨rfl, hb2⟩
  replace gx := Lib.hid (isN_of hb2 gx.out)
  replace hb := Lib.hid (hb.out.trans (hb2.mono hs))
  clear hs hb2
  have hs := hb.out.size
  replace gx := Lib.hid (gx.out.alloc (oN ⟨Yn, Yh, Yl⟩))
  have gy := Lib.hid (IsN.new w2 ⟨Yn, Yh, Yl⟩)
  replace hb := Lib.hid (hb.out.alloc hs (oN ⟨Yn, Yh, Yl⟩))
  clear hs
  have hs := hb.out.size
  clear cx0 cx1 cx2
  obtain ⟨cx0, cx1, cx2⟩ := gx.out.all
  dsimp only at cx0 cx1 cx2
  go_wp2_with fail
  refine (rP.out.on _).mono ?_
  rintro e w3 ⟨rfl, hb3⟩
  replace gx := Lib.hid (isN_of hb3 gx.out)
  replace gy := Lib.hid (isN_of hb3 gy.out)
  replace hb := Lib.hid (hb.out.trans (hb3.mono hs))
  clear hs hb3
  have hs := hb.out.size
  replace gx := Lib.hid (gx.out.alloc (oN ⟨Yn, Yh, Yl⟩))
  replace gy := Lib.hid (gy.out.alloc (oN ⟨Yn, Yh, Yl⟩))
  have gz := Lib.hid (IsN.new w3 ⟨Yn, Yh, Yl⟩)
  replace hb := Lib.hid (hb.out.alloc hs (oN ⟨Yn, Yh, Yl⟩))
  clear hs
  have hs := hb.out.size
  replace hb := Lib.hid (below_drewed hb.out)
  clear hs
  have hs := hb.out.size
  clear cx0 cx1 cx2
  obtain ⟨cx0, cx1, cx2⟩ := gx.out.all
  obtain ⟨cy0, cy1, cy2⟩ := gy.out.all
  obtain ⟨cz0, cz1, cz2⟩ := gz.out.all
  dsimp only at cx0 cx1 cx2 cy0 cy1 cy2 cz0 cz1 cz2
  have mk0 := Lib.hid trivial
  have mk1 := Lib.hid trivial
  go_wp2_with fail
  go_region_held3 (fun w1 => w1.cell? ⟨w.heap.size, 0, none⟩ = some (.bool false) ∧ w1.cell? ⟨w.heap.size, 1, none⟩ = some (.int .u64 0) ∧ w1.cell? ⟨w.heap.size, 2, none⟩ = some (.int .u64 xl) ∧ w1.cell? ⟨w2.heap.size, 0, none⟩ = some (.bool Yn) ∧ w1.cell? ⟨w2.heap.size, 1, none⟩ = some (.int .u64 Yh) ∧ w1.cell? ⟨w2.heap.size, 2, none⟩ = some (.int .u64 Yl) ∧ w1.cell? ⟨w3.heap.size, 0, none⟩ = some (.bool Yn) ∧ w1.cell? ⟨w3.heap.size, 1, none⟩ = some (.int .u64 Yh) ∧ w1.cell? ⟨w3.heap.size, 2, none⟩ = some (.int .u64 Yl)) (go_keep)
    (first
      | (go_at_call 16
         clear mk0
         refine (tX.out.on _).mono ?_
         rintro e wr ⟨rfl, hbr⟩
         have hb2 := Lib.hid (hb.out.trans (hbr.mono hs))
         clear hb hs
         have hb := hb2
         clear hb2
         have hs := hb.out.size
         have gg := Lib.hid (isN_of hbr gx.out)
         clear gx
         have gx := gg
         clear gg
         have gg := Lib.hid (isN_of hbr gy.out)
         clear gy
         have gy := gg
         clear gg
         have gg := Lib.hid (isN_of hbr gz.out)
         clear gz
         have gz := gg
         clear gg
         clear hbr cx0 cx1 cx2 cy0 cy1 cy2 cz0 cz1 cz2
         obtain ⟨cx0, cx1, cx2⟩ := gx.out.all
         obtain ⟨cy0, cy1, cy2⟩ := gy.out.all
         obtain ⟨cz0, cz1, cz2⟩ := gz.out.all
         dsimp only at cx0 cx1 cx2 cy0 cy1 cy2 cz0 cz1 cz2)
      | (go_at_call 17
         clear mk1
         refine (rT.out.on _).mono ?_
         rintro e wr ⟨rfl, hbr⟩
         have hb2 := Lib.hid (hb.out.trans (hbr.mono hs))
         clear hb hs
         have hb := hb2
         clear hb2
         have hs := hb.out.size
         have gg := Lib.hid (isN_of hbr gx.out)
         clear gx
         have gx := gg
         clear gg
         have gg := Lib.hid (isN_of hbr gy.out)
         clear gy
         have gy := gg
         clear gg
         have gg := Lib.hid (isN_of hbr gz.out)
         clear gz
         have gz := gg
         clear gg
         clear hbr cx0 cx1 cx2 cy0 cy1 cy2 cz0 cz1 cz2
         obtain ⟨cx0, cx1, cx2⟩ := gx.out.all
         obtain ⟨cy0, cy1, cy2⟩ := gy.out.all
         obtain ⟨cz0, cz1, cz2⟩ := gz.out.all
         dsimp only at cx0 cx1 cx2 cy0 cy1 cy2 cz0 cz1 cz2))
  all_goals (
    clear gy gz
    clear cy0 cy1 cy2 cz0 cz1 cz2 cx0 cx1 cx2
    (try clear mk0)
    (try clear mk1)
    obtain ⟨cx0, cx1, cx2⟩ := gx.out.all
    dsimp only at cx0 cx1 cx2
    go_wp2_with fail
    refine (sX.out.on _).mono ?_
    rintro e w4 ⟨rfl, hb4⟩
    replace gx := Lib.hid (isN_of hb4 gx.out)
    replace hb := Lib.hid (hb.out.trans (hb4.mono hs))
    clear hs hb4
    have hs := hb.out.size
    clear cx0 cx1 cx2
    obtain ⟨cx0, cx1, cx2⟩ := gx.out.all
    dsimp only at cx0 cx1 cx2
    go_wp2_with fail
    refine (gX.out.on _).mono ?_
    rintro e w5 ⟨rfl, hb5⟩
    replace gx := Lib.hid (isN_of hb5 gx.out)
    replace hb := Lib.hid (hb.out.trans (hb5.mono hs))
    clear hs hb5
    have hs := hb.out.size
    replace hb := Lib.hid (below_drewed hb.out)
    clear hs
    have hs := hb.out.size
    clear cx0 cx1 cx2
    obtain ⟨cx0, cx1, cx2⟩ := gx.out.all
    dsimp only at cx0 cx1 cx2
    go_wp2_with fail
    refine wp_region_held_at (S := fun w1 => w1.cell? ⟨w.heap.size, 0, none⟩ = some (.bool false) ∧ w1.cell? ⟨w.heap.size, 1, none⟩ = some (.int .u64 0) ∧ w1.cell? ⟨w.heap.size, 2, none⟩ = some (.int .u64 xl)) 20 rfl (by kernel_rfl) (by go_keep) (fun hH => ?_)
    refine wpAnyH_take (i := 0) (v := ?_) rfl (by decide +kernel) (by decide +kernel) (by decide +kernel) (fun _ _ _ h => h) (Or.inl ⟨by rfl, ?_⟩) (by assumption) ?_
    rotate_left
    · intro w1 hSw; (try dsimp only at hSw); (try simp only [List.getElem_toArray, List.getElem_cons_zero]); go_simp; try with_reducible rfl
    try simp only [List.getElem_toArray, List.getElem_cons_zero, Act.put, List.setIfInBounds_toArray, List.set_cons_zero, List.set_cons_succ]
    refine wpAnyH_take (i := 1) (v := ?_) rfl (by decide +kernel) (by decide +kernel) (by decide +kernel) (fun _ _ _ h => h) (Or.inl ⟨by rfl, ?_⟩) (by assumption) ?_
    rotate_left
    · intro w1 hSw; (try dsimp only at hSw); (try simp only [List.getElem_toArray, List.getElem_cons_zero, List.getElem_cons_succ]); go_simp; try with_reducible rfl
    try simp only [List.getElem_toArray, List.getElem_cons_zero, List.getElem_cons_succ, Act.put, List.setIfInBounds_toArray, List.set_cons_zero, List.set_cons_succ]
    refine wpAnyH_take (i := 2) (v := ?_) rfl (by decide +kernel) (by decide +kernel) (by decide +kernel) (fun _ _ _ h => h) (Or.inl ⟨by rfl, ?_⟩) (by assumption) ?_
    rotate_left
    · intro w1 hSw; (try dsimp only at hSw); (try simp only [List.getElem_toArray, List.getElem_cons_zero, List.getElem_cons_succ]); go_simp; try with_reducible rfl
    try simp only [List.getElem_toArray, List.getElem_cons_zero, List.getElem_cons_succ, Act.put, List.setIfInBounds_toArray, List.set_cons_zero, List.set_cons_succ]
    refine wpAnyH_take (i := 3) (v := ?_) rfl (by decide +kernel) (by decide +kernel) (by decide +kernel) (fun _ _ _ h => h) (Or.inl ⟨by rfl, ?_⟩) (by assumption) ?_
    rotate_left
    · intro w1 hSw; (try dsimp only at hSw); (try simp only [List.getElem_toArray, List.getElem_cons_zero, List.getElem_cons_succ]); go_simp; try with_reducible rfl
    try simp only [List.getElem_toArray, List.getElem_cons_zero, List.getElem_cons_succ, Act.put, List.setIfInBounds_toArray, List.set_cons_zero, List.set_cons_succ]
    refine wpAnyH_take (i := 4) (v := ?_) rfl (by decide +kernel) (by decide +kernel) (by decide +kernel) (fun _ _ _ h => h) (Or.inl ⟨by rfl, ?_⟩) (by assumption) ?_
    rotate_left
    · intro w1 hSw; (try dsimp only at hSw); (try simp only [List.getElem_toArray, List.getElem_cons_zero, List.getElem_cons_succ]); go_simp; try with_reducible rfl
    try simp only [List.getElem_toArray, List.getElem_cons_zero, List.getElem_cons_succ, Act.put, List.setIfInBounds_toArray, List.set_cons_zero, List.set_cons_succ]
    refine wpAnyH_take (i := 5) (v := ?_) rfl (by decide +kernel) (by decide +kernel) (by decide +kernel) (fun _ _ _ h => h) (Or.inl ⟨by rfl, ?_⟩) (by assumption) ?_
    rotate_left
    · intro w1 hSw; (try dsimp only at hSw); (try simp only [List.getElem_toArray, List.getElem_cons_zero, List.getElem_cons_succ]); go_simp; try with_reducible rfl
    try simp only [List.getElem_toArray, List.getElem_cons_zero, List.getElem_cons_succ, Act.put, List.setIfInBounds_toArray, List.set_cons_zero, List.set_cons_succ]
    refine wpAnyH_take (i := 6) (v := ?_) rfl (by decide +kernel) (by decide +kernel) (by decide +kernel) (fun _ _ _ h => h) (Or.inl ⟨by rfl, ?_⟩) (by assumption) ?_
    rotate_left
    · intro w1 hSw; (try dsimp only at hSw); (try simp only [List.getElem_toArray, List.getElem_cons_zero, List.getElem_cons_succ]); go_simp; try with_reducible rfl
    try simp only [List.getElem_toArray, List.getElem_cons_zero, List.getElem_cons_succ, Act.put, List.setIfInBounds_toArray, List.set_cons_zero, List.set_cons_succ]
    refine wpAnyH_take (i := 7) (v := ?_) rfl (by decide +kernel) (by decide +kernel) (by decide +kernel) (fun _ _ _ h => h) (Or.inl ⟨by rfl, ?_⟩) (by assumption) ?_
    rotate_left
    · intro w1 hSw; (try dsimp only at hSw); (try simp only [List.getElem_toArray, List.getElem_cons_zero, List.getElem_cons_succ]); go_simp; try with_reducible rfl
    try simp only [List.getElem_toArray, List.getElem_cons_zero, List.getElem_cons_succ, Act.put, List.setIfInBounds_toArray, List.set_cons_zero, List.set_cons_succ]
    refine wpAnyH_take (i := 8) (v := ?_) rfl (by decide +kernel) (by decide +kernel) (by decide +kernel) (fun _ _ _ h => h) (Or.inl ⟨by rfl, ?_⟩) (by assumption) ?_
    rotate_left
    · intro w1 hSw; (try dsimp only at hSw); (try simp only [List.getElem_toArray, List.getElem_cons_zero, List.getElem_cons_succ]); go_simp; try with_reducible rfl
    try simp only [List.getElem_toArray, List.getElem_cons_zero, List.getElem_cons_succ, Act.put, List.setIfInBounds_toArray, List.set_cons_zero, List.set_cons_succ]
    refine wpAnyH_take (i := 9) (v := ?_) rfl (by decide +kernel) (by decide +kernel) (by decide +kernel) (fun _ _ _ h => h) (Or.inl ⟨by rfl, ?_⟩) (by assumption) ?_
    rotate_left
    · intro w1 hSw; (try dsimp only at hSw); (try simp only [List.getElem_toArray, List.getElem_cons_zero, List.getElem_cons_succ]); go_simp; try with_reducible rfl
    try simp only [List.getElem_toArray, List.getElem_cons_zero, List.getElem_cons_succ, Act.put, List.setIfInBounds_toArray, List.set_cons_zero, List.set_cons_succ]
    refine wpAnyH_take (i := 10) (v := ?_) rfl (by decide +kernel) (by decide +kernel) (by decide +kernel) (fun _ _ _ h => h) (Or.inl ⟨by rfl, ?_⟩) (by assumption) ?_
    rotate_left
    · intro w1 hSw; (try dsimp only at hSw); (try simp only [List.getElem_toArray, List.getElem_cons_zero, List.getElem_cons_succ]); go_simp; try with_reducible rfl
    try simp only [List.getElem_toArray, List.getElem_cons_zero, List.getElem_cons_succ, Act.put, List.setIfInBounds_toArray, List.set_cons_zero, List.set_cons_succ]
    refine wpAnyH_take (i := 11) (v := ?_) rfl (by decide +kernel) (by decide +kernel) (by decide +kernel) (fun _ _ _ h => h) (Or.inl ⟨by rfl, ?_⟩) (by assumption) ?_
    rotate_left
    · intro w1 hSw; (try dsimp only at hSw); (try simp only [List.getElem_toArray, List.getElem_cons_zero, List.getElem_cons_succ]); go_simp; try with_reducible rfl
    try simp only [List.getElem_toArray, List.getElem_cons_zero, List.getElem_cons_succ, Act.put, List.setIfInBounds_toArray, List.set_cons_zero, List.set_cons_succ]
    refine wpAnyH_take (i := 12) (v := ?_) rfl (by decide +kernel) (by decide +kernel) (by decide +kernel) (fun _ _ _ h => h) (Or.inl ⟨by rfl, ?_⟩) (by assumption) ?_
    rotate_left
    · intro w1 hSw; (try dsimp only at hSw); (try simp only [List.getElem_toArray, List.getElem_cons_zero, List.getElem_cons_succ]); go_simp; try with_reducible rfl
    try simp only [List.getElem_toArray, List.getElem_cons_zero, List.getElem_cons_succ, Act.put, List.setIfInBounds_toArray, List.set_cons_zero, List.set_cons_succ]
    refine wpAnyH_take (i := 13) (v := ?_) rfl (by decide +kernel) (by decide +kernel) (by decide +kernel) (fun _ _ _ h => h) (Or.inl ⟨by rfl, ?_⟩) (by assumption) ?_
    rotate_left
    · intro w1 hSw; (try dsimp only at hSw); (try simp only [List.getElem_toArray, List.getElem_cons_zero, List.getElem_cons_succ]); go_simp; try with_reducible rfl
    try simp only [List.getElem_toArray, List.getElem_cons_zero, List.getElem_cons_succ, Act.put, List.setIfInBounds_toArray, List.set_cons_zero, List.set_cons_succ]
    refine wpAnyH_take (i := 14) (v := undef) rfl (by decide +kernel) (by decide +kernel) (by decide +kernel) (fun _ _ _ h => h) (Or.inr ⟨by rfl, rfl⟩) (by assumption) ?_
    try simp only [List.getElem_toArray, List.getElem_cons_zero, List.getElem_cons_succ, Act.put, List.setIfInBounds_toArray, List.set_cons_zero, List.set_cons_succ]
    refine wpAnyH_take (i := 15) (v := undef) rfl (by decide +kernel) (by decide +kernel) (by decide +kernel) (fun _ _ _ h => h) (Or.inr ⟨by rfl, rfl⟩) (by assumption) ?_
    try simp only [List.getElem_toArray, List.getElem_cons_zero, List.getElem_cons_succ, Act.put, List.setIfInBounds_toArray, List.set_cons_zero, List.set_cons_succ]
    refine wpAnyH_take (i := 16) (v := undef) rfl (by decide +kernel) (by decide +kernel) (by decide +kernel) (fun _ _ _ h => h) (Or.inr ⟨by rfl, rfl⟩) (by assumption) ?_
    try simp only [List.getElem_toArray, List.getElem_cons_zero, List.getElem_cons_succ, Act.put, List.setIfInBounds_toArray, List.set_cons_zero, List.set_cons_succ]
    refine wpAnyH_take (i := 17) (v := undef) rfl (by decide +kernel) (by decide +kernel) (by decide +kernel) (fun _ _ _ h => h) (Or.inr ⟨by rfl, rfl⟩) (by assumption) ?_
    try simp only [List.getElem_toArray, List.getElem_cons_zero, List.getElem_cons_succ, Act.put, List.setIfInBounds_toArray, List.set_cons_zero, List.set_cons_succ]
    refine wpAnyH_take (i := 18) (v := ?_) rfl (by decide +kernel) (by decide +kernel) (by decide +kernel) (fun _ _ _ h => h) (Or.inl ⟨by rfl, ?_⟩) (by assumption) ?_
    rotate_left
    · intro w1 hSw; (try dsimp only at hSw); (try simp only [List.getElem_toArray, List.getElem_cons_zero, List.getElem_cons_succ]); go_simp; try with_reducible rfl
    try simp only [List.getElem_toArray, List.getElem_cons_zero, List.getElem_cons_succ, Act.put, List.setIfInBounds_toArray, List.set_cons_zero, List.set_cons_succ]
    refine wpAnyH_take (i := 19) (v := ?_) rfl (by decide +kernel) (by decide +kernel) (by decide +kernel) (fun _ _ _ h => h) (Or.inl ⟨by rfl, ?_⟩) (by assumption) ?_
    rotate_left
    · intro w1 hSw; (try dsimp only at hSw); (try simp only [List.getElem_toArray, List.getElem_cons_zero, List.getElem_cons_succ]); go_simp; try with_reducible rfl
    try simp only [List.getElem_toArray, List.getElem_cons_zero, List.getElem_cons_succ, Act.put, List.setIfInBounds_toArray, List.set_cons_zero, List.set_cons_succ]
    refine wpAnyH_done (by decide +kernel) ?_ _
    clear hH
    clear cx0 cx1 cx2
    go_wp2_with fail
    refine (oF.out.on _).mono ?_
    rintro e w6 ⟨rfl, hb6⟩
    replace gx := Lib.hid (isN_of hb6 gx.out)
    replace hb := Lib.hid (hb.out.trans (hb6.mono hs))
    clear hs hb6
    have hs := hb.out.size
    go_wp2_with fail
    refine (sN.out.on _).mono ?_
    rintro e w7 ⟨rfl, hb7⟩
    replace gx := Lib.hid (isN_of hb7 gx.out)
    replace hb := Lib.hid (hb.out.trans (hb7.mono hs))
    clear hs hb7
    have hs := hb.out.size
    go_wp2_with fail
    refine (wW.out.on _).mono ?_
    rintro e w8 ⟨rfl, hb8⟩
    replace gx := Lib.hid (isN_of hb8 gx.out)
    replace hb := Lib.hid (hb.out.trans (hb8.mono hs))
    clear hs hb8
    have hs := hb.out.size
    go_wp2_with fail
    refine (oF.out.on _).mono ?_
    rintro e w9 ⟨rfl, hb9⟩
    replace gx := Lib.hid (isN_of hb9 gx.out)
    replace hb := Lib.hid (hb.out.trans (hb9.mono hs))
    clear hs hb9
    have hs := hb.out.size
    go_wp2_with fail
    refine (gN.out.on _).mono ?_
    rintro e w10 ⟨rfl, hb10⟩
    replace gx := Lib.hid (isN_of hb10 gx.out)
    replace hb := Lib.hid (hb.out.trans (hb10.mono hs))
    clear hs hb10
    have hs := hb.out.size
    go_wp2_with fail
    refine (cN.out.on _).mono ?_
    rintro e w11 ⟨rfl, hb11⟩
    replace gx := Lib.hid (isN_of hb11 gx.out)
    replace hb := Lib.hid (hb.out.trans (hb11.mono hs))
    clear hs hb11
    have hs := hb.out.size
    go_wp2_with fail
    go_ret
    exact ⟨rfl, hb.out⟩)
end Go.Proofs.YtbfigpollacngaaDoor
