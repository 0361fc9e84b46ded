/- the walk over FieldExact -/
import Derived.Test.YtbfigpollacngaaFr9
namespace Go.Proofs.Ytbfigpollacngaa
open Go.RowKit
open Rf
open Wide
attribute [local go_sem ↓] Go.wp_at_zero Go.wp_at_succ

set_option maxRecDepth 100000 in
set_option maxHeartbeats 8000000 in
theorem fieldExact_N (k : Int) (x A B : WI) (sz : Int) (nm : ByteArray) (bd : Ret 14 #[.int .i64 k] (.tuple #[wv A, wv B])) (cs : Ret 15 #[.int .i64 k] (.int .i64 sz)) (cb : Ret 11 #[.int .i64 k] (.int .i64 sz))
    (cn : Ret 16 #[.int .i64 k] (.string nm)) (cr : Ret 12 #[.int .i64 k] (.string nm)) (cl : Ret 17 #[.int .i64 k] (wv A)) (cg : Ret 18 #[.int .i64 k] (wv B))
    (rf : Ret 19 #[.int .i64 k, wv x] (.bool false)) (pu : Ret 20 #[.int .i64 k, wv x] (.tuple #[.string ByteArray.empty, .int .i64 1])) (ft : Ret 21 #[.int .i64 k, wv x] (.bool false)) (ck : Ret 25 #[.int .i64 k, wv x] (wv zero)) (hsz : decide (0 < sz) = false) (hsz0 : (sz == 0) = true) (w : World) :
    Calls Try.prog 4 #[.int .i64 k, wv x] w fun e w' => e = .returned (.bool true) ∧ Below w.heap.size w w' := by
  obtain ⟨xn, xh, xl⟩ := x
  obtain ⟨An, Ah, Al⟩ := A
  obtain ⟨Bn, Bh, Bl⟩ := B
  unfold wv zero at *
  dsimp only at *
  replace hsz := Lib.hid hsz
  replace hsz0 := Lib.hid hsz0
  go_enter Try.func4, Try.ntmps4
  go_wp2_with fail
  refine (awake_c.on _).mono ?_
  rintro e w1 ⟨rfl, hb1⟩
  obtain ⟨gx, hb⟩ := one_new (x := ⟨xn, xh, xl⟩) hb1
  have hs := hb.size
  clear hb1
  replace gx := Lib.hid gx
  replace hb := Lib.hid hb
  go_wp2_with fail
  refine (bd.on _).mono ?_
  rintro e w2 ⟨rfl, hb2⟩
  replace gx := Lib.hid (isN_of hb2 gx.out)
  replace hb := Lib.hid (hb.out.trans (hb2.mono hs))
  clear hs hb2
  have hs := hb.out.size
  have l1 := gx.out.lt
  replace gx := Lib.hid ((gx.out.alloc (oN ⟨An, Ah, Al⟩)).alloc (oN ⟨Bn, Bh, Bl⟩))
  have ga := Lib.hid ((IsN.new w2 ⟨An, Ah, Al⟩).alloc (oN ⟨Bn, Bh, Bl⟩))
  have gb := Lib.hid (show IsN ((w2.alloc (oN ⟨An, Ah, Al⟩)).alloc (oN ⟨Bn, Bh, Bl⟩)) (w2.heap.size + 1) ⟨Bn, Bh, Bl⟩ from by have h := IsN.new (w2.alloc (oN ⟨An, Ah, Al⟩)) ⟨Bn, Bh, Bl⟩; rwa [size_alloc] at h)
  replace hb := Lib.hid ((hb.out.alloc hs (oN ⟨An, Ah, Al⟩)).alloc (by rw [size_alloc]; omega) (oN ⟨Bn, Bh, Bl⟩))
  clear hs
  have hs := hb.out.size
  replace hb := Lib.hid (below_drewed hb.out)
  clear hs
  have hs := hb.out.size
  obtain ⟨ca0, ca1, ca2⟩ := ga.out.all
  obtain ⟨cb0, cb1, cb2⟩ := gb.out.all
  dsimp only at ca0 ca1 ca2 cb0 cb1 cb2
  go_wp2_with fail
  refine wp_region_held_at (S := fun w1 => w1.cell? ⟨w2.heap.size, 0, none⟩ = some (.bool An) ∧ w1.cell? ⟨w2.heap.size, 1, none⟩ = some (.int .u64 Ah) ∧ w1.cell? ⟨w2.heap.size, 2, none⟩ = some (.int .u64 Al) ∧ w1.cell? ⟨w2.heap.size + 1, 0, none⟩ = some (.bool Bn) ∧ w1.cell? ⟨w2.heap.size + 1, 1, none⟩ = some (.int .u64 Bh) ∧ w1.cell? ⟨w2.heap.size + 1, 2, none⟩ = some (.int .u64 Bl)) 24 rfl (by kernel_rfl) (by go_keep) (fun hH => ?_)
  refine wpAnyH_take (i := 0) (v := ?_) rfl (by decide +kernel) (by decide +kernel) (by decide +kernel) (fun _ _ _ h => h) (Or.inl ⟨by rfl, ?_⟩) (by assumption) ?_
  rotate_left
  · intro w1 hSw; (try dsimp only at hSw); (try simp only [List.getElem_toArray, List.getElem_cons_zero]); go_simp; try with_reducible rfl
  try simp only [List.getElem_toArray, List.getElem_cons_zero, Act.put, List.setIfInBounds_toArray, List.set_cons_zero, List.set_cons_succ]
  refine wpAnyH_take (i := 2) (v := ?_) rfl (by decide +kernel) (by decide +kernel) (by decide +kernel) (fun _ _ _ h => h) (Or.inl ⟨by rfl, ?_⟩) (by assumption) ?_
  rotate_left
  · intro w1 hSw; (try dsimp only at hSw); (try simp only [List.getElem_toArray, List.getElem_cons_zero, List.getElem_cons_succ]); go_simp; try with_reducible rfl
  try simp only [List.getElem_toArray, List.getElem_cons_zero, List.getElem_cons_succ, Act.put, List.setIfInBounds_toArray, List.set_cons_zero, List.set_cons_succ]
  refine wpAnyH_ready (rs := [1]) (by decide +kernel) (by simp) ?_
  refine AllReadyH.cons rfl (fun K hK => ?_) AllReadyH.nil
  (try simp only [List.getElem_toArray, List.getElem_cons_zero, List.getElem_cons_succ])
  go_simp
  refine (cs.on _).mono ?_
  rintro e wr ⟨rfl, hbr⟩
  have hb2 := Lib.hid (hb.out.trans (hbr.mono hs))
  clear hb hs
  have hb := hb2
  clear hb2
  have hs := hb.out.size
  have gg := Lib.hid (isN_of hbr gx.out)
  clear gx
  have gx := gg
  clear gg
  have gg := Lib.hid (isN_of hbr ga.out)
  clear ga
  have ga := gg
  clear gg
  have gg := Lib.hid (isN_of hbr gb.out)
  clear gb
  have gb := gg
  clear gg
  clear hH hbr ca0 ca1 ca2 cb0 cb1 cb2
  obtain ⟨ca0, ca1, ca2⟩ := ga.out.all
  obtain ⟨cb0, cb1, cb2⟩ := gb.out.all
  dsimp only at ca0 ca1 ca2 cb0 cb1 cb2
  go_simp
  refine hK.out _ _ (by go_keep) (fun hH => ?_)
  clear hK K
  try simp only [List.getElem_toArray, List.getElem_cons_zero, List.getElem_cons_succ, Act.put, List.setIfInBounds_toArray, List.set_cons_zero, List.set_cons_succ]
  refine wpAnyH_ready (rs := [3]) (by decide +kernel) (by simp) ?_
  refine AllReadyH.cons rfl (fun K hK => ?_) AllReadyH.nil
  (try simp only [List.getElem_toArray, List.getElem_cons_zero, List.getElem_cons_succ])
  go_simp
  refine (cb.on _).mono ?_
  rintro e wr ⟨rfl, hbr⟩
  have hb2 := Lib.hid (hb.out.trans (hbr.mono hs))
  clear hb hs
  have hb := hb2
  clear hb2
  have hs := hb.out.size
  have gg := Lib.hid (isN_of hbr gx.out)
  clear gx
  have gx := gg
  clear gg
  have gg := Lib.hid (isN_of hbr ga.out)
  clear ga
  have ga := gg
  clear gg
  have gg := Lib.hid (isN_of hbr gb.out)
  clear gb
  have gb := gg
  clear gg
  clear hH hbr ca0 ca1 ca2 cb0 cb1 cb2
  obtain ⟨ca0, ca1, ca2⟩ := ga.out.all
  obtain ⟨cb0, cb1, cb2⟩ := gb.out.all
  dsimp only at ca0 ca1 ca2 cb0 cb1 cb2
  go_simp
  refine hK.out _ _ (by go_keep) (fun hH => ?_)
  clear hK K
  try simp only [List.getElem_toArray, List.getElem_cons_zero, List.getElem_cons_succ, Act.put, List.setIfInBounds_toArray, List.set_cons_zero, List.set_cons_succ]
  refine wpAnyH_take (i := 4) (v := ?_) rfl (by decide +kernel) (by decide +kernel) (by decide +kernel) (fun _ _ _ h => h) (Or.inl ⟨by rfl, ?_⟩) (by assumption) ?_
  rotate_left
  · intro w1 hSw; (try dsimp only at hSw); (try simp only [List.getElem_toArray, List.getElem_cons_zero, List.getElem_cons_succ]); go_simp; try with_reducible rfl
  try simp only [List.getElem_toArray, List.getElem_cons_zero, List.getElem_cons_succ, Act.put, List.setIfInBounds_toArray, List.set_cons_zero, List.set_cons_succ]
  refine wpAnyH_take (i := 5) (v := ?_) rfl (by decide +kernel) (by decide +kernel) (by decide +kernel) (fun _ _ _ h => h) (Or.inl ⟨by rfl, ?_⟩) (by assumption) ?_
  rotate_left
  · intro w1 hSw; (try dsimp only at hSw); (try simp only [List.getElem_toArray, List.getElem_cons_zero, List.getElem_cons_succ]); go_simp; try with_reducible rfl
  try simp only [List.getElem_toArray, List.getElem_cons_zero, List.getElem_cons_succ, Act.put, List.setIfInBounds_toArray, List.set_cons_zero, List.set_cons_succ]
  refine wpAnyH_take (i := 6) (v := ?_) rfl (by decide +kernel) (by decide +kernel) (by decide +kernel) (fun _ _ _ h => h) (Or.inl ⟨by rfl, ?_⟩) (by assumption) ?_
  rotate_left
  · intro w1 hSw; (try dsimp only at hSw); (try simp only [List.getElem_toArray, List.getElem_cons_zero, List.getElem_cons_succ]); go_simp; try with_reducible rfl
  try simp only [List.getElem_toArray, List.getElem_cons_zero, List.getElem_cons_succ, Act.put, List.setIfInBounds_toArray, List.set_cons_zero, List.set_cons_succ]
  refine wpAnyH_take (i := 8) (v := ?_) rfl (by decide +kernel) (by decide +kernel) (by decide +kernel) (fun _ _ _ h => h) (Or.inl ⟨by rfl, ?_⟩) (by assumption) ?_
  rotate_left
  · intro w1 hSw; (try dsimp only at hSw); (try simp only [List.getElem_toArray, List.getElem_cons_zero, List.getElem_cons_succ]); go_simp; try with_reducible rfl
  try simp only [List.getElem_toArray, List.getElem_cons_zero, List.getElem_cons_succ, Act.put, List.setIfInBounds_toArray, List.set_cons_zero, List.set_cons_succ]
  refine wpAnyH_ready (rs := [7]) (by decide +kernel) (by simp) ?_
  refine AllReadyH.cons rfl (fun K hK => ?_) AllReadyH.nil
  (try simp only [List.getElem_toArray, List.getElem_cons_zero, List.getElem_cons_succ])
  go_simp
  refine (cn.on _).mono ?_
  rintro e wr ⟨rfl, hbr⟩
  have hb2 := Lib.hid (hb.out.trans (hbr.mono hs))
  clear hb hs
  have hb := hb2
  clear hb2
  have hs := hb.out.size
  have gg := Lib.hid (isN_of hbr gx.out)
  clear gx
  have gx := gg
  clear gg
  have gg := Lib.hid (isN_of hbr ga.out)
  clear ga
  have ga := gg
  clear gg
  have gg := Lib.hid (isN_of hbr gb.out)
  clear gb
  have gb := gg
  clear gg
  clear hH hbr ca0 ca1 ca2 cb0 cb1 cb2
  obtain ⟨ca0, ca1, ca2⟩ := ga.out.all
  obtain ⟨cb0, cb1, cb2⟩ := gb.out.all
  dsimp only at ca0 ca1 ca2 cb0 cb1 cb2
  go_simp
  refine hK.out _ _ (by go_keep) (fun hH => ?_)
  clear hK K
  try simp only [List.getElem_toArray, List.getElem_cons_zero, List.getElem_cons_succ, Act.put, List.setIfInBounds_toArray, List.set_cons_zero, List.set_cons_succ]
  refine wpAnyH_ready (rs := [9]) (by decide +kernel) (by simp) ?_
  refine AllReadyH.cons rfl (fun K hK => ?_) AllReadyH.nil
  (try simp only [List.getElem_toArray, List.getElem_cons_zero, List.getElem_cons_succ])
  go_simp
  refine (cr.on _).mono ?_
  rintro e wr ⟨rfl, hbr⟩
  have hb2 := Lib.hid (hb.out.trans (hbr.mono hs))
  clear hb hs
  have hb := hb2
  clear hb2
  have hs := hb.out.size
  have gg := Lib.hid (isN_of hbr gx.out)
  clear gx
  have gx := gg
  clear gg
  have gg := Lib.hid (isN_of hbr ga.out)
  clear ga
  have ga := gg
  clear gg
  have gg := Lib.hid (isN_of hbr gb.out)
  clear gb
  have gb := gg
  clear gg
  clear hH hbr ca0 ca1 ca2 cb0 cb1 cb2
  obtain ⟨ca0, ca1, ca2⟩ := ga.out.all
  obtain ⟨cb0, cb1, cb2⟩ := gb.out.all
  dsimp only at ca0 ca1 ca2 cb0 cb1 cb2
  go_simp
  refine hK.out _ _ (by go_keep) (fun hH => ?_)
  clear hK K
  try simp only [List.getElem_toArray, List.getElem_cons_zero, List.getElem_cons_succ, Act.put, List.setIfInBounds_toArray, List.set_cons_zero, List.set_cons_succ]
  refine wpAnyH_take (i := 10) (v := ?_) rfl (by decide +kernel) (by decide +kernel) (by decide +kernel) (fun _ _ _ h => h) (Or.inl ⟨by rfl, ?_⟩) (by assumption) ?_
  rotate_left
  · intro w1 hSw; (try dsimp only at hSw); (try simp only [List.getElem_toArray, List.getElem_cons_zero, List.getElem_cons_succ]); go_simp; try with_reducible rfl
  try simp only [List.getElem_toArray, List.getElem_cons_zero, List.getElem_cons_succ, Act.put, List.setIfInBounds_toArray, List.set_cons_zero, List.set_cons_succ]
  refine wpAnyH_take (i := 11) (v := ?_) rfl (by decide +kernel) (by decide +kernel) (by decide +kernel) (fun _ _ _ h => h) (Or.inl ⟨by rfl, ?_⟩) (by assumption) ?_
  rotate_left
  · intro w1 hSw; (try dsimp only at hSw); (try simp only [List.getElem_toArray, List.getElem_cons_zero, List.getElem_cons_succ]); go_simp; try with_reducible rfl
  try simp only [List.getElem_toArray, List.getElem_cons_zero, List.getElem_cons_succ, Act.put, List.setIfInBounds_toArray, List.set_cons_zero, List.set_cons_succ]
  refine wpAnyH_take (i := 12) (v := ?_) rfl (by decide +kernel) (by decide +kernel) (by decide +kernel) (fun _ _ _ h => h) (Or.inl ⟨by rfl, ?_⟩) (by assumption) ?_
  rotate_left
  · intro w1 hSw; (try dsimp only at hSw); (try simp only [List.getElem_toArray, List.getElem_cons_zero, List.getElem_cons_succ]); go_simp; try with_reducible rfl
  try simp only [List.getElem_toArray, List.getElem_cons_zero, List.getElem_cons_succ, Act.put, List.setIfInBounds_toArray, List.set_cons_zero, List.set_cons_succ]
  refine wpAnyH_take (i := 13) (v := ?_) rfl (by decide +kernel) (by decide +kernel) (by decide +kernel) (fun _ _ _ h => h) (Or.inl ⟨by rfl, ?_⟩) (by assumption) ?_
  rotate_left
  · intro w1 hSw; (try dsimp only at hSw); (try simp only [List.getElem_toArray, List.getElem_cons_zero, List.getElem_cons_succ]); go_simp; try with_reducible rfl
  try simp only [List.getElem_toArray, List.getElem_cons_zero, List.getElem_cons_succ, Act.put, List.setIfInBounds_toArray, List.set_cons_zero, List.set_cons_succ]
  refine wpAnyH_take (i := 15) (v := ?_) rfl (by decide +kernel) (by decide +kernel) (by decide +kernel) (fun _ _ _ h => h) (Or.inl ⟨by rfl, ?_⟩) (by assumption) ?_
  rotate_left
  · intro w1 hSw; (try dsimp only at hSw); (try simp only [List.getElem_toArray, List.getElem_cons_zero, List.getElem_cons_succ]); go_simp; try with_reducible rfl
  try simp only [List.getElem_toArray, List.getElem_cons_zero, List.getElem_cons_succ, Act.put, List.setIfInBounds_toArray, List.set_cons_zero, List.set_cons_succ]
  refine wpAnyH_ready (rs := [14]) (by decide +kernel) (by simp) ?_
  refine AllReadyH.cons rfl (fun K hK => ?_) AllReadyH.nil
  (try simp only [List.getElem_toArray, List.getElem_cons_zero, List.getElem_cons_succ])
  go_simp
  refine (cl.on _).mono ?_
  rintro e wr ⟨rfl, hbr⟩
  have hb2 := Lib.hid (hb.out.trans (hbr.mono hs))
  clear hb hs
  have hb := hb2
  clear hb2
  have hs := hb.out.size
  have gg := Lib.hid (isN_of hbr gx.out)
  clear gx
  have gx := gg
  clear gg
  have gg := Lib.hid (isN_of hbr ga.out)
  clear ga
  have ga := gg
  clear gg
  have gg := Lib.hid (isN_of hbr gb.out)
  clear gb
  have gb := gg
  clear gg
  clear hH hbr ca0 ca1 ca2 cb0 cb1 cb2
  obtain ⟨ca0, ca1, ca2⟩ := ga.out.all
  obtain ⟨cb0, cb1, cb2⟩ := gb.out.all
  dsimp only at ca0 ca1 ca2 cb0 cb1 cb2
  go_simp
  refine hK.out _ _ (by go_keep) (fun hH => ?_)
  clear hK K
  try simp only [List.getElem_toArray, List.getElem_cons_zero, List.getElem_cons_succ, Act.put, List.setIfInBounds_toArray, List.set_cons_zero, List.set_cons_succ]
  refine wpAnyH_take (i := 16) (v := ?_) rfl (by decide +kernel) (by decide +kernel) (by decide +kernel) (fun _ _ _ h => h) (Or.inl ⟨by rfl, ?_⟩) (by assumption) ?_
  rotate_left
  · intro w1 hSw; (try dsimp only at hSw); (try simp only [List.getElem_toArray, List.getElem_cons_zero, List.getElem_cons_succ]); go_simp; try with_reducible rfl
  try simp only [List.getElem_toArray, List.getElem_cons_zero, List.getElem_cons_succ, Act.put, List.setIfInBounds_toArray, List.set_cons_zero, List.set_cons_succ]
  refine wpAnyH_take (i := 17) (v := ?_) rfl (by decide +kernel) (by decide +kernel) (by decide +kernel) (fun _ _ _ h => h) (Or.inl ⟨by rfl, ?_⟩) (by assumption) ?_
  rotate_left
  · intro w1 hSw; (try dsimp only at hSw); (try simp only [List.getElem_toArray, List.getElem_cons_zero, List.getElem_cons_succ]); go_simp; try with_reducible rfl
  try simp only [List.getElem_toArray, List.getElem_cons_zero, List.getElem_cons_succ, Act.put, List.setIfInBounds_toArray, List.set_cons_zero, List.set_cons_succ]
  refine wpAnyH_take (i := 18) (v := ?_) rfl (by decide +kernel) (by decide +kernel) (by decide +kernel) (fun _ _ _ h => h) (Or.inl ⟨by rfl, ?_⟩) (by assumption) ?_
  rotate_left
  · intro w1 hSw; (try dsimp only at hSw); (try simp only [List.getElem_toArray, List.getElem_cons_zero, List.getElem_cons_succ]); go_simp; try with_reducible rfl
  try simp only [List.getElem_toArray, List.getElem_cons_zero, List.getElem_cons_succ, Act.put, List.setIfInBounds_toArray, List.set_cons_zero, List.set_cons_succ]
  refine wpAnyH_take (i := 19) (v := ?_) rfl (by decide +kernel) (by decide +kernel) (by decide +kernel) (fun _ _ _ h => h) (Or.inl ⟨by rfl, ?_⟩) (by assumption) ?_
  rotate_left
  · intro w1 hSw; (try dsimp only at hSw); (try simp only [List.getElem_toArray, List.getElem_cons_zero, List.getElem_cons_succ]); go_simp; try with_reducible rfl
  try simp only [List.getElem_toArray, List.getElem_cons_zero, List.getElem_cons_succ, Act.put, List.setIfInBounds_toArray, List.set_cons_zero, List.set_cons_succ]
  refine wpAnyH_take (i := 21) (v := ?_) rfl (by decide +kernel) (by decide +kernel) (by decide +kernel) (fun _ _ _ h => h) (Or.inl ⟨by rfl, ?_⟩) (by assumption) ?_
  rotate_left
  · intro w1 hSw; (try dsimp only at hSw); (try simp only [List.getElem_toArray, List.getElem_cons_zero, List.getElem_cons_succ]); go_simp; try with_reducible rfl
  try simp only [List.getElem_toArray, List.getElem_cons_zero, List.getElem_cons_succ, Act.put, List.setIfInBounds_toArray, List.set_cons_zero, List.set_cons_succ]
  refine wpAnyH_ready (rs := [20]) (by decide +kernel) (by simp) ?_
  refine AllReadyH.cons rfl (fun K hK => ?_) AllReadyH.nil
  (try simp only [List.getElem_toArray, List.getElem_cons_zero, List.getElem_cons_succ])
  go_simp
  refine (cg.on _).mono ?_
  rintro e wr ⟨rfl, hbr⟩
  have hb2 := Lib.hid (hb.out.trans (hbr.mono hs))
  clear hb hs
  have hb := hb2
  clear hb2
  have hs := hb.out.size
  have gg := Lib.hid (isN_of hbr gx.out)
  clear gx
  have gx := gg
  clear gg
  have gg := Lib.hid (isN_of hbr ga.out)
  clear ga
  have ga := gg
  clear gg
  have gg := Lib.hid (isN_of hbr gb.out)
  clear gb
  have gb := gg
  clear gg
  clear hH hbr ca0 ca1 ca2 cb0 cb1 cb2
  obtain ⟨ca0, ca1, ca2⟩ := ga.out.all
  obtain ⟨cb0, cb1, cb2⟩ := gb.out.all
  dsimp only at ca0 ca1 ca2 cb0 cb1 cb2
  go_simp
  refine hK.out _ _ (by go_keep) (fun hH => ?_)
  clear hK K
  try simp only [List.getElem_toArray, List.getElem_cons_zero, List.getElem_cons_succ, Act.put, List.setIfInBounds_toArray, List.set_cons_zero, List.set_cons_succ]
  refine wpAnyH_take (i := 22) (v := ?_) rfl (by decide +kernel) (by decide +kernel) (by decide +kernel) (fun _ _ _ h => h) (Or.inl ⟨by rfl, ?_⟩) (by assumption) ?_
  rotate_left
  · intro w1 hSw; (try dsimp only at hSw); (try simp only [List.getElem_toArray, List.getElem_cons_zero, List.getElem_cons_succ]); go_simp; try with_reducible rfl
  try simp only [List.getElem_toArray, List.getElem_cons_zero, List.getElem_cons_succ, Act.put, List.setIfInBounds_toArray, List.set_cons_zero, List.set_cons_succ]
  refine wpAnyH_take (i := 23) (v := ?_) rfl (by decide +kernel) (by decide +kernel) (by decide +kernel) (fun _ _ _ h => h) (Or.inl ⟨by rfl, ?_⟩) (by assumption) ?_
  rotate_left
  · intro w1 hSw; (try dsimp only at hSw); (try simp only [List.getElem_toArray, List.getElem_cons_zero, List.getElem_cons_succ]); go_simp; try with_reducible rfl
  try simp only [List.getElem_toArray, List.getElem_cons_zero, List.getElem_cons_succ, Act.put, List.setIfInBounds_toArray, List.set_cons_zero, List.set_cons_succ]
  refine wpAnyH_done (by decide +kernel) ?_ _
  clear hH
  clear ca0 ca1 ca2 cb0 cb1 cb2
  obtain ⟨cx0, cx1, cx2⟩ := gx.out.all
  dsimp only at cx0 cx1 cx2
  go_wp2_with fail
  refine (rf.on _).mono ?_
  rintro e w21 ⟨rfl, hb21⟩
  replace gx := Lib.hid (isN_of hb21 gx.out)
  replace ga := Lib.hid (isN_of hb21 ga.out)
  replace gb := Lib.hid (isN_of hb21 gb.out)
  replace hb := Lib.hid (hb.out.trans (hb21.mono hs))
  clear hs hb21
  have hs := hb.out.size
  clear cx0 cx1 cx2
  obtain ⟨cx0, cx1, cx2⟩ := gx.out.all
  dsimp only at cx0 cx1 cx2
  go_wp2_with fail
  refine (pu.on _).mono ?_
  rintro e w22 ⟨rfl, hb22⟩
  replace gx := Lib.hid (isN_of hb22 gx.out)
  replace ga := Lib.hid (isN_of hb22 ga.out)
  replace gb := Lib.hid (isN_of hb22 gb.out)
  replace hb := Lib.hid (hb.out.trans (hb22.mono hs))
  clear hs hb22
  have hs := hb.out.size
  clear cx0 cx1 cx2
  obtain ⟨cx0, cx1, cx2⟩ := gx.out.all
  dsimp only at cx0 cx1 cx2
  go_wp2_with fail
  refine (ft.on _).mono ?_
  rintro e w23 ⟨rfl, hb23⟩
  replace gx := Lib.hid (isN_of hb23 gx.out)
  replace ga := Lib.hid (isN_of hb23 ga.out)
  replace gb := Lib.hid (isN_of hb23 gb.out)
  replace hb := Lib.hid (hb.out.trans (hb23.mono hs))
  clear hs hb23
  have hs := hb.out.size
  have kx := gx.out.lt
  have ka := ga.out.lt
  have kb := gb.out.lt
  have hle := hs
  clear cx0 cx1 cx2
  replace gx := Lib.hid (gx.out.alloc (oN ⟨false, 0, 0⟩))
  replace ga := Lib.hid (ga.out.alloc (oN ⟨false, 0, 0⟩))
  replace gb := Lib.hid (gb.out.alloc (oN ⟨false, 0, 0⟩))
  have gv := Lib.hid (IsN.new w23 ⟨false, 0, 0⟩)
  replace hb := Lib.hid (hb.out.alloc hs (oN ⟨false, 0, 0⟩))
  clear hs
  have hs := hb.out.size
  go_wp2_with fail
  refine (cb.on _).mono ?_
  rintro e w24 ⟨rfl, hb24⟩
  replace gx := Lib.hid (isN_of hb24 gx.out)
  replace ga := Lib.hid (isN_of hb24 ga.out)
  replace gb := Lib.hid (isN_of hb24 gb.out)
  replace gv := Lib.hid (isN_of hb24 gv.out)
  replace hb := Lib.hid (hb.out.trans (hb24.mono hs))
  clear hs hb24
  have hs := hb.out.size
  replace hsz := hsz.out
  replace hb := Lib.hid (below_drewed hb.out)
  clear hs
  have hs := hb.out.size
  obtain ⟨cx0, cx1, cx2⟩ := gx.out.all
  obtain ⟨cv0, cv1, cv2⟩ := gv.out.all
  dsimp only at cx0 cx1 cx2 cv0 cv1 cv2
  go_wp2_with fail
  refine wp_region_held_at (S := fun w1 => w1.cell? ⟨w.heap.size, 0, none⟩ = some (.bool xn) ∧ w1.cell? ⟨w.heap.size, 1, none⟩ = some (.int .u64 xh) ∧ w1.cell? ⟨w.heap.size, 2, none⟩ = some (.int .u64 xl) ∧ w1.cell? ⟨w23.heap.size, 0, none⟩ = some (.bool false) ∧ w1.cell? ⟨w23.heap.size, 1, none⟩ = some (.int .u64 0) ∧ w1.cell? ⟨w23.heap.size, 2, none⟩ = some (.int .u64 0)) 5 rfl (by kernel_rfl) (by go_keep) (fun hH => ?_)
  refine wpAnyH_take (i := 0) (v := ?_) rfl (by decide +kernel) (by decide +kernel) (by decide +kernel) (fun _ _ _ h => h) (Or.inl ⟨by rfl, ?_⟩) (by assumption) ?_
  rotate_left
  · intro w1 hSw; (try dsimp only at hSw); (try simp only [List.getElem_toArray, List.getElem_cons_zero]); go_simp; try with_reducible rfl
  try simp only [List.getElem_toArray, List.getElem_cons_zero, Act.put, List.setIfInBounds_toArray, List.set_cons_zero, List.set_cons_succ]
  refine wpAnyH_take (i := 1) (v := ?_) rfl (by decide +kernel) (by decide +kernel) (by decide +kernel) (fun _ _ _ h => h) (Or.inl ⟨by rfl, ?_⟩) (by assumption) ?_
  rotate_left
  · intro w1 hSw; (try dsimp only at hSw); (try simp only [List.getElem_toArray, List.getElem_cons_zero, List.getElem_cons_succ]); go_simp; try with_reducible rfl
  try simp only [List.getElem_toArray, List.getElem_cons_zero, List.getElem_cons_succ, Act.put, List.setIfInBounds_toArray, List.set_cons_zero, List.set_cons_succ]
  refine wpAnyH_take (i := 3) (v := ?_) rfl (by decide +kernel) (by decide +kernel) (by decide +kernel) (fun _ _ _ h => h) (Or.inl ⟨by rfl, ?_⟩) (by assumption) ?_
  rotate_left
  · intro w1 hSw; (try dsimp only at hSw); (try simp only [List.getElem_toArray, List.getElem_cons_zero, List.getElem_cons_succ]); go_simp; try with_reducible rfl
  try simp only [List.getElem_toArray, List.getElem_cons_zero, List.getElem_cons_succ, Act.put, List.setIfInBounds_toArray, List.set_cons_zero, List.set_cons_succ]
  refine wpAnyH_ready (rs := [2]) (by decide +kernel) (by simp) ?_
  refine AllReadyH.cons rfl (fun K hK => ?_) AllReadyH.nil
  (try simp only [List.getElem_toArray, List.getElem_cons_zero, List.getElem_cons_succ])
  go_simp
  refine (ck.on _).mono ?_
  rintro e wr ⟨rfl, hbr⟩
  have hb2 := Lib.hid (hb.out.trans (hbr.mono hs))
  clear hb hs
  have hb := hb2
  clear hb2
  have hs := hb.out.size
  have gg := Lib.hid (isN_of hbr gx.out)
  clear gx
  have gx := gg
  clear gg
  have gg := Lib.hid (isN_of hbr ga.out)
  clear ga
  have ga := gg
  clear gg
  have gg := Lib.hid (isN_of hbr gb.out)
  clear gb
  have gb := gg
  clear gg
  have gg := Lib.hid (isN_of hbr gv.out)
  clear gv
  have gv := gg
  clear gg
  clear hH hbr cx0 cx1 cx2 cv0 cv1 cv2
  obtain ⟨cx0, cx1, cx2⟩ := gx.out.all
  obtain ⟨cv0, cv1, cv2⟩ := gv.out.all
  dsimp only at cx0 cx1 cx2 cv0 cv1 cv2
  go_simp
  refine hK.out _ _ (by go_keep) (fun hH => ?_)
  clear hK K
  try simp only [List.getElem_toArray, List.getElem_cons_zero, List.getElem_cons_succ, Act.put, List.setIfInBounds_toArray, List.set_cons_zero, List.set_cons_succ]
  refine wpAnyH_take (i := 4) (v := ?_) rfl (by decide +kernel) (by decide +kernel) (by decide +kernel) (fun _ _ _ h => h) (Or.inl ⟨by rfl, ?_⟩) (by assumption) ?_
  rotate_left
  · intro w1 hSw; (try dsimp only at hSw); (try simp only [List.getElem_toArray, List.getElem_cons_zero, List.getElem_cons_succ]); go_simp; try with_reducible rfl
  try simp only [List.getElem_toArray, List.getElem_cons_zero, List.getElem_cons_succ, Act.put, List.setIfInBounds_toArray, List.set_cons_zero, List.set_cons_succ]
  refine wpAnyH_done (by decide +kernel) ?_ _
  clear hH
  clear cx0 cx1 cx2 cv0 cv1 cv2
  replace hsz0 := hsz0.out
  go_wp2_with fail
  refine (cb.on _).mono ?_
  rintro e w41 ⟨rfl, hb41⟩
  replace gx := Lib.hid (isN_of hb41 gx.out)
  replace ga := Lib.hid (isN_of hb41 ga.out)
  replace gb := Lib.hid (isN_of hb41 gb.out)
  replace gv := Lib.hid (isN_of hb41 gv.out)
  replace hb := Lib.hid (hb.out.trans (hb41.mono hs))
  clear hs hb41
  have hs := hb.out.size
  go_wp2_with fail
  go_ret
  exact ⟨rfl, hb.out⟩

set_option maxRecDepth 100000 in
set_option maxHeartbeats 8000000 in
theorem fieldExact_F (k : Int) (x A B : WI) (sz : Int) (nm : ByteArray) (bd : Ret 14 #[.int .i64 k] (.tuple #[wv A, wv B])) (cs : Ret 15 #[.int .i64 k] (.int .i64 sz)) (cb : Ret 11 #[.int .i64 k] (.int .i64 sz))
    (cn : Ret 16 #[.int .i64 k] (.string nm)) (cr : Ret 12 #[.int .i64 k] (.string nm)) (cl : Ret 17 #[.int .i64 k] (wv A)) (cg : Ret 18 #[.int .i64 k] (wv B))
    (rf : Ret 19 #[.int .i64 k, wv x] (.bool false)) (pu : Ret 20 #[.int .i64 k, wv x] (.tuple #[.string ByteArray.empty, .int .i64 3])) (ft : Ret 21 #[.int .i64 k, wv x] (.bool false)) (ck : Ret 25 #[.int .i64 k, wv x] (wv zero)) (hsz : decide (0 < sz) = true) (hsz0 : (sz == 0) = false) (gd : Ret 23 #[wv x] (.bool false)) (w : World) :
    Calls Try.prog 4 #[.int .i64 k, wv x] w fun e w' => e = .returned (.bool true) ∧ Below w.heap.size w w' := by
  obtain ⟨xn, xh, xl⟩ := x
  obtain ⟨An, Ah, Al⟩ := A
  obtain ⟨Bn, Bh, Bl⟩ := B
  unfold wv zero at *
  dsimp only at *
  replace hsz := Lib.hid hsz
  replace hsz0 := Lib.hid hsz0
  go_enter Try.func4, Try.ntmps4
  go_wp2_with fail
  refine (awake_c.on _).mono ?_
  rintro e w1 ⟨rfl, hb1⟩
  obtain ⟨gx, hb⟩ := one_new (x := ⟨xn, xh, xl⟩) hb1
  have hs := hb.size
  clear hb1
  replace gx := Lib.hid gx
  replace hb := Lib.hid hb
  go_wp2_with fail
  refine (bd.on _).mono ?_
  rintro e w2 ⟨rfl, hb2⟩
  replace gx := Lib.hid (isN_of hb2 gx.out)
  replace hb := Lib.hid (hb.out.trans (hb2.mono hs))
  clear hs hb2
  have hs := hb.out.size
  have l1 := gx.out.lt
  replace gx := Lib.hid ((gx.out.alloc (oN ⟨An, Ah, Al⟩)).alloc (oN ⟨Bn, Bh, Bl⟩))
  have ga := Lib.hid ((IsN.new w2 ⟨An, Ah, Al⟩).alloc (oN ⟨Bn, Bh, Bl⟩))
  have gb := Lib.hid (show IsN ((w2.alloc (oN ⟨An, Ah, Al⟩)).alloc (oN ⟨Bn, Bh, Bl⟩)) (w2.heap.size + 1) ⟨Bn, Bh, Bl⟩ from by have h := IsN.new (w2.alloc (oN ⟨An, Ah, Al⟩)) ⟨Bn, Bh, Bl⟩; rwa [size_alloc] at h)
  replace hb := Lib.hid ((hb.out.alloc hs (oN ⟨An, Ah, Al⟩)).alloc (by rw [size_alloc]; omega) (oN ⟨Bn, Bh, Bl⟩))
  clear hs
  have hs := hb.out.size
  replace hb := Lib.hid (below_drewed hb.out)
  clear hs
  have hs := hb.out.size
  obtain ⟨ca0, ca1, ca2⟩ := ga.out.all
  obtain ⟨cb0, cb1, cb2⟩ := gb.out.all
  dsimp only at ca0 ca1 ca2 cb0 cb1 cb2
  go_wp2_with fail
  refine wp_region_held_at (S := fun w1 => w1.cell? ⟨w2.heap.size, 0, none⟩ = some (.bool An) ∧ w1.cell? ⟨w2.heap.size, 1, none⟩ = some (.int .u64 Ah) ∧ w1.cell? ⟨w2.heap.size, 2, none⟩ = some (.int .u64 Al) ∧ w1.cell? ⟨w2.heap.size + 1, 0, none⟩ = some (.bool Bn) ∧ w1.cell? ⟨w2.heap.size + 1, 1, none⟩ = some (.int .u64 Bh) ∧ w1.cell? ⟨w2.heap.size + 1, 2, none⟩ = some (.int .u64 Bl)) 24 rfl (by kernel_rfl) (by go_keep) (fun hH => ?_)
  refine wpAnyH_take (i := 0) (v := ?_) rfl (by decide +kernel) (by decide +kernel) (by decide +kernel) (fun _ _ _ h => h) (Or.inl ⟨by rfl, ?_⟩) (by assumption) ?_
  rotate_left
  · intro w1 hSw; (try dsimp only at hSw); (try simp only [List.getElem_toArray, List.getElem_cons_zero]); go_simp; try with_reducible rfl
  try simp only [List.getElem_toArray, List.getElem_cons_zero, Act.put, List.setIfInBounds_toArray, List.set_cons_zero, List.set_cons_succ]
  refine wpAnyH_take (i := 2) (v := ?_) rfl (by decide +kernel) (by decide +kernel) (by decide +kernel) (fun _ _ _ h => h) (Or.inl ⟨by rfl, ?_⟩) (by assumption) ?_
  rotate_left
  · intro w1 hSw; (try dsimp only at hSw); (try simp only [List.getElem_toArray, List.getElem_cons_zero, List.getElem_cons_succ]); go_simp; try with_reducible rfl
  try simp only [List.getElem_toArray, List.getElem_cons_zero, List.getElem_cons_succ, Act.put, List.setIfInBounds_toArray, List.set_cons_zero, List.set_cons_succ]
  refine wpAnyH_ready (rs := [1]) (by decide +kernel) (by simp) ?_
  refine AllReadyH.cons rfl (fun K hK => ?_) AllReadyH.nil
  (try simp only [List.getElem_toArray, List.getElem_cons_zero, List.getElem_cons_succ])
  go_simp
  refine (cs.on _).mono ?_
  rintro e wr ⟨rfl, hbr⟩
  have hb2 := Lib.hid (hb.out.trans (hbr.mono hs))
  clear hb hs
  have hb := hb2
  clear hb2
  have hs := hb.out.size
  have gg := Lib.hid (isN_of hbr gx.out)
  clear gx
  have gx := gg
  clear gg
  have gg := Lib.hid (isN_of hbr ga.out)
  clear ga
  have ga := gg
  clear gg
  have gg := Lib.hid (isN_of hbr gb.out)
  clear gb
  have gb := gg
  clear gg
  clear hH hbr ca0 ca1 ca2 cb0 cb1 cb2
  obtain ⟨ca0, ca1, ca2⟩ := ga.out.all
  obtain ⟨cb0, cb1, cb2⟩ := gb.out.all
  dsimp only at ca0 ca1 ca2 cb0 cb1 cb2
  go_simp
  refine hK.out _ _ (by go_keep) (fun hH => ?_)
  clear hK K
  try simp only [List.getElem_toArray, List.getElem_cons_zero, List.getElem_cons_succ, Act.put, List.setIfInBounds_toArray, List.set_cons_zero, List.set_cons_succ]
  refine wpAnyH_ready (rs := [3]) (by decide +kernel) (by simp) ?_
  refine AllReadyH.cons rfl (fun K hK => ?_) AllReadyH.nil
  (try simp only [List.getElem_toArray, List.getElem_cons_zero, List.getElem_cons_succ])
  go_simp
  refine (cb.on _).mono ?_
  rintro e wr ⟨rfl, hbr⟩
  have hb2 := Lib.hid (hb.out.trans (hbr.mono hs))
  clear hb hs
  have hb := hb2
  clear hb2
  have hs := hb.out.size
  have gg := Lib.hid (isN_of hbr gx.out)
  clear gx
  have gx := gg
  clear gg
  have gg := Lib.hid (isN_of hbr ga.out)
  clear ga
  have ga := gg
  clear gg
  have gg := Lib.hid (isN_of hbr gb.out)
  clear gb
  have gb := gg
  clear gg
  clear hH hbr ca0 ca1 ca2 cb0 cb1 cb2
  obtain ⟨ca0, ca1, ca2⟩ := ga.out.all
  obtain ⟨cb0, cb1, cb2⟩ := gb.out.all
  dsimp only at ca0 ca1 ca2 cb0 cb1 cb2
  go_simp
  refine hK.out _ _ (by go_keep) (fun hH => ?_)
  clear hK K
  try simp only [List.getElem_toArray, List.getElem_cons_zero, List.getElem_cons_succ, Act.put, List.setIfInBounds_toArray, List.set_cons_zero, List.set_cons_succ]
  refine wpAnyH_take (i := 4) (v := ?_) rfl (by decide +kernel) (by decide +kernel) (by decide +kernel) (fun _ _ _ h => h) (Or.inl ⟨by rfl, ?_⟩) (by assumption) ?_
  rotate_left
  · intro w1 hSw; (try dsimp only at hSw); (try simp only [List.getElem_toArray, List.getElem_cons_zero, List.getElem_cons_succ]); go_simp; try with_reducible rfl
  try simp only [List.getElem_toArray, List.getElem_cons_zero, List.getElem_cons_succ, Act.put, List.setIfInBounds_toArray, List.set_cons_zero, List.set_cons_succ]
  refine wpAnyH_take (i := 5) (v := ?_) rfl (by decide +kernel) (by decide +kernel) (by decide +kernel) (fun _ _ _ h => h) (Or.inl ⟨by rfl, ?_⟩) (by assumption) ?_
  rotate_left
  · intro w1 hSw; (try dsimp only at hSw); (try simp only [List.getElem_toArray, List.getElem_cons_zero, List.getElem_cons_succ]); go_simp; try with_reducible rfl
  try simp only [List.getElem_toArray, List.getElem_cons_zero, List.getElem_cons_succ, Act.put, List.setIfInBounds_toArray, List.set_cons_zero, List.set_cons_succ]
  refine wpAnyH_take (i := 6) (v := ?_) rfl (by decide +kernel) (by decide +kernel) (by decide +kernel) (fun _ _ _ h => h) (Or.inl ⟨by rfl, ?_⟩) (by assumption) ?_
  rotate_left
  · intro w1 hSw; (try dsimp only at hSw); (try simp only [List.getElem_toArray, List.getElem_cons_zero, List.getElem_cons_succ]); go_simp; try with_reducible rfl
  try simp only [List.getElem_toArray, List.getElem_cons_zero, List.getElem_cons_succ, Act.put, List.setIfInBounds_toArray, List.set_cons_zero, List.set_cons_succ]
  refine wpAnyH_take (i := 8) (v := ?_) rfl (by decide +kernel) (by decide +kernel) (by decide +kernel) (fun _ _ _ h => h) (Or.inl ⟨by rfl, ?_⟩) (by assumption) ?_
  rotate_left
  · intro w1 hSw; (try dsimp only at hSw); (try simp only [List.getElem_toArray, List.getElem_cons_zero, List.getElem_cons_succ]); go_simp; try with_reducible rfl
  try simp only [List.getElem_toArray, List.getElem_cons_zero, List.getElem_cons_succ, Act.put, List.setIfInBounds_toArray, List.set_cons_zero, List.set_cons_succ]
  refine wpAnyH_ready (rs := [7]) (by decide +kernel) (by simp) ?_
  refine AllReadyH.cons rfl (fun K hK => ?_) AllReadyH.nil
  (try simp only [List.getElem_toArray, List.getElem_cons_zero, List.getElem_cons_succ])
  go_simp
  refine (cn.on _).mono ?_
  rintro e wr ⟨rfl, hbr⟩
  have hb2 := Lib.hid (hb.out.trans (hbr.mono hs))
  clear hb hs
  have hb := hb2
  clear hb2
  have hs := hb.out.size
  have gg := Lib.hid (isN_of hbr gx.out)
  clear gx
  have gx := gg
  clear gg
  have gg := Lib.hid (isN_of hbr ga.out)
  clear ga
  have ga := gg
  clear gg
  have gg := Lib.hid (isN_of hbr gb.out)
  clear gb
  have gb := gg
  clear gg
  clear hH hbr ca0 ca1 ca2 cb0 cb1 cb2
  obtain ⟨ca0, ca1, ca2⟩ := ga.out.all
  obtain ⟨cb0, cb1, cb2⟩ := gb.out.all
  dsimp only at ca0 ca1 ca2 cb0 cb1 cb2
  go_simp
  refine hK.out _ _ (by go_keep) (fun hH => ?_)
  clear hK K
  try simp only [List.getElem_toArray, List.getElem_cons_zero, List.getElem_cons_succ, Act.put, List.setIfInBounds_toArray, List.set_cons_zero, List.set_cons_succ]
  refine wpAnyH_ready (rs := [9]) (by decide +kernel) (by simp) ?_
  refine AllReadyH.cons rfl (fun K hK => ?_) AllReadyH.nil
  (try simp only [List.getElem_toArray, List.getElem_cons_zero, List.getElem_cons_succ])
  go_simp
  refine (cr.on _).mono ?_
  rintro e wr ⟨rfl, hbr⟩
  have hb2 := Lib.hid (hb.out.trans (hbr.mono hs))
  clear hb hs
  have hb := hb2
  clear hb2
  have hs := hb.out.size
  have gg := Lib.hid (isN_of hbr gx.out)
  clear gx
  have gx := gg
  clear gg
  have gg := Lib.hid (isN_of hbr ga.out)
  clear ga
  have ga := gg
  clear gg
  have gg := Lib.hid (isN_of hbr gb.out)
  clear gb
  have gb := gg
  clear gg
  clear hH hbr ca0 ca1 ca2 cb0 cb1 cb2
  obtain ⟨ca0, ca1, ca2⟩ := ga.out.all
  obtain ⟨cb0, cb1, cb2⟩ := gb.out.all
  dsimp only at ca0 ca1 ca2 cb0 cb1 cb2
  go_simp
  refine hK.out _ _ (by go_keep) (fun hH => ?_)
  clear hK K
  try simp only [List.getElem_toArray, List.getElem_cons_zero, List.getElem_cons_succ, Act.put, List.setIfInBounds_toArray, List.set_cons_zero, List.set_cons_succ]
  refine wpAnyH_take (i := 10) (v := ?_) rfl (by decide +kernel) (by decide +kernel) (by decide +kernel) (fun _ _ _ h => h) (Or.inl ⟨by rfl, ?_⟩) (by assumption) ?_
  rotate_left
  · intro w1 hSw; (try dsimp only at hSw); (try simp only [List.getElem_toArray, List.getElem_cons_zero, List.getElem_cons_succ]); go_simp; try with_reducible rfl
  try simp only [List.getElem_toArray, List.getElem_cons_zero, List.getElem_cons_succ, Act.put, List.setIfInBounds_toArray, List.set_cons_zero, List.set_cons_succ]
  refine wpAnyH_take (i := 11) (v := ?_) rfl (by decide +kernel) (by decide +kernel) (by decide +kernel) (fun _ _ _ h => h) (Or.inl ⟨by rfl, ?_⟩) (by assumption) ?_
  rotate_left
  · intro w1 hSw; (try dsimp only at hSw); (try simp only [List.getElem_toArray, List.getElem_cons_zero, List.getElem_cons_succ]); go_simp; try with_reducible rfl
  try simp only [List.getElem_toArray, List.getElem_cons_zero, List.getElem_cons_succ, Act.put, List.setIfInBounds_toArray, List.set_cons_zero, List.set_cons_succ]
  refine wpAnyH_take (i := 12) (v := ?_) rfl (by decide +kernel) (by decide +kernel) (by decide +kernel) (fun _ _ _ h => h) (Or.inl ⟨by rfl, ?_⟩) (by assumption) ?_
  rotate_left
  · intro w1 hSw; (try dsimp only at hSw); (try simp only [List.getElem_toArray, List.getElem_cons_zero, List.getElem_cons_succ]); go_simp; try with_reducible rfl
  try simp only [List.getElem_toArray, List.getElem_cons_zero, List.getElem_cons_succ, Act.put, List.setIfInBounds_toArray, List.set_cons_zero, List.set_cons_succ]
  refine wpAnyH_take (i := 13) (v := ?_) rfl (by decide +kernel) (by decide +kernel) (by decide +kernel) (fun _ _ _ h => h) (Or.inl ⟨by rfl, ?_⟩) (by assumption) ?_
  rotate_left
  · intro w1 hSw; (try dsimp only at hSw); (try simp only [List.getElem_toArray, List.getElem_cons_zero, List.getElem_cons_succ]); go_simp; try with_reducible rfl
  try simp only [List.getElem_toArray, List.getElem_cons_zero, List.getElem_cons_succ, Act.put, List.setIfInBounds_toArray, List.set_cons_zero, List.set_cons_succ]
  refine wpAnyH_take (i := 15) (v := ?_) rfl (by decide +kernel) (by decide +kernel) (by decide +kernel) (fun _ _ _ h => h) (Or.inl ⟨by rfl, ?_⟩) (by assumption) ?_
  rotate_left
  · intro w1 hSw; (try dsimp only at hSw); (try simp only [List.getElem_toArray, List.getElem_cons_zero, List.getElem_cons_succ]); go_simp; try with_reducible rfl
  try simp only [List.getElem_toArray, List.getElem_cons_zero, List.getElem_cons_succ, Act.put, List.setIfInBounds_toArray, List.set_cons_zero, List.set_cons_succ]
  refine wpAnyH_ready (rs := [14]) (by decide +kernel) (by simp) ?_
  refine AllReadyH.cons rfl (fun K hK => ?_) AllReadyH.nil
  (try simp only [List.getElem_toArray, List.getElem_cons_zero, List.getElem_cons_succ])
  go_simp
  refine (cl.on _).mono ?_
  rintro e wr ⟨rfl, hbr⟩
  have hb2 := Lib.hid (hb.out.trans (hbr.mono hs))
  clear hb hs
  have hb := hb2
  clear hb2
  have hs := hb.out.size
  have gg := Lib.hid (isN_of hbr gx.out)
  clear gx
  have gx := gg
  clear gg
  have gg := Lib.hid (isN_of hbr ga.out)
  clear ga
  have ga := gg
  clear gg
  have gg := Lib.hid (isN_of hbr gb.out)
  clear gb
  have gb := gg
  clear gg
  clear hH hbr ca0 ca1 ca2 cb0 cb1 cb2
  obtain ⟨ca0, ca1, ca2⟩ := ga.out.all
  obtain ⟨cb0, cb1, cb2⟩ := gb.out.all
  dsimp only at ca0 ca1 ca2 cb0 cb1 cb2
  go_simp
  refine hK.out _ _ (by go_keep) (fun hH => ?_)
  clear hK K
  try simp only [List.getElem_toArray, List.getElem_cons_zero, List.getElem_cons_succ, Act.put, List.setIfInBounds_toArray, List.set_cons_zero, List.set_cons_succ]
  refine wpAnyH_take (i := 16) (v := ?_) rfl (by decide +kernel) (by decide +kernel) (by decide +kernel) (fun _ _ _ h => h) (Or.inl ⟨by rfl, ?_⟩) (by assumption) ?_
  rotate_left
  · intro w1 hSw; (try dsimp only at hSw); (try simp only [List.getElem_toArray, List.getElem_cons_zero, List.getElem_cons_succ]); go_simp; try with_reducible rfl
  try simp only [List.getElem_toArray, List.getElem_cons_zero, List.getElem_cons_succ, Act.put, List.setIfInBounds_toArray, List.set_cons_zero, List.set_cons_succ]
  refine wpAnyH_take (i := 17) (v := ?_) rfl (by decide +kernel) (by decide +kernel) (by decide +kernel) (fun _ _ _ h => h) (Or.inl ⟨by rfl, ?_⟩) (by assumption) ?_
  rotate_left
  · intro w1 hSw; (try dsimp only at hSw); (try simp only [List.getElem_toArray, List.getElem_cons_zero, List.getElem_cons_succ]); go_simp; try with_reducible rfl
  try simp only [List.getElem_toArray, List.getElem_cons_zero, List.getElem_cons_succ, Act.put, List.setIfInBounds_toArray, List.set_cons_zero, List.set_cons_succ]
  refine wpAnyH_take (i := 18) (v := ?_) rfl (by decide +kernel) (by decide +kernel) (by decide +kernel) (fun _ _ _ h => h) (Or.inl ⟨by rfl, ?_⟩) (by assumption) ?_
  rotate_left
  · intro w1 hSw; (try dsimp only at hSw); (try simp only [List.getElem_toArray, List.getElem_cons_zero, List.getElem_cons_succ]); go_simp; try with_reducible rfl
  try simp only [List.getElem_toArray, List.getElem_cons_zero, List.getElem_cons_succ, Act.put, List.setIfInBounds_toArray, List.set_cons_zero, List.set_cons_succ]
  refine wpAnyH_take (i := 19) (v := ?_) rfl (by decide +kernel) (by decide +kernel) (by decide +kernel) (fun _ _ _ h => h) (Or.inl ⟨by rfl, ?_⟩) (by assumption) ?_
  rotate_left
  · intro w1 hSw; (try dsimp only at hSw); (try simp only [List.getElem_toArray, List.getElem_cons_zero, List.getElem_cons_succ]); go_simp; try with_reducible rfl
  try simp only [List.getElem_toArray, List.getElem_cons_zero, List.getElem_cons_succ, Act.put, List.setIfInBounds_toArray, List.set_cons_zero, List.set_cons_succ]
  refine wpAnyH_take (i := 21) (v := ?_) rfl (by decide +kernel) (by decide +kernel) (by decide +kernel) (fun _ _ _ h => h) (Or.inl ⟨by rfl, ?_⟩) (by assumption) ?_
  rotate_left
  · intro w1 hSw; (try dsimp only at hSw); (try simp only [List.getElem_toArray, List.getElem_cons_zero, List.getElem_cons_succ]); go_simp; try with_reducible rfl
  try simp only [List.getElem_toArray, List.getElem_cons_zero, List.getElem_cons_succ, Act.put, List.setIfInBounds_toArray, List.set_cons_zero, List.set_cons_succ]
  refine wpAnyH_ready (rs := [20]) (by decide +kernel) (by simp) ?_
  refine AllReadyH.cons rfl (fun K hK => ?_) AllReadyH.nil
  (try simp only [List.getElem_toArray, List.getElem_cons_zero, List.getElem_cons_succ])
  go_simp
  refine (cg.on _).mono ?_
  rintro e wr ⟨rfl, hbr⟩
  have hb2 := Lib.hid (hb.out.trans (hbr.mono hs))
  clear hb hs
  have hb := hb2
  clear hb2
  have hs := hb.out.size
  have gg := Lib.hid (isN_of hbr gx.out)
  clear gx
  have gx := gg
  clear gg
  have gg := Lib.hid (isN_of hbr ga.out)
  clear ga
  have ga := gg
  clear gg
  have gg := Lib.hid (isN_of hbr gb.out)
  clear gb
  have gb := gg
  clear gg
  clear hH hbr ca0 ca1 ca2 cb0 cb1 cb2
  obtain ⟨ca0, ca1, ca2⟩ := ga.out.all
  obtain ⟨cb0, cb1, cb2⟩ := gb.out.all
  dsimp only at ca0 ca1 ca2 cb0 cb1 cb2
  go_simp
  refine hK.out _ _ (by go_keep) (fun hH => ?_)
  clear hK K
  try simp only [List.getElem_toArray, List.getElem_cons_zero, List.getElem_cons_succ, Act.put, List.setIfInBounds_toArray, List.set_cons_zero, List.set_cons_succ]
  refine wpAnyH_take (i := 22) (v := ?_) rfl (by decide +kernel) (by decide +kernel) (by decide +kernel) (fun _ _ _ h => h) (Or.inl ⟨by rfl, ?_⟩) (by assumption) ?_
  rotate_left
  · intro w1 hSw; (try dsimp only at hSw); (try simp only [List.getElem_toArray, List.getElem_cons_zero, List.getElem_cons_succ]); go_simp; try with_reducible rfl
  try simp only [List.getElem_toArray, List.getElem_cons_zero, List.getElem_cons_succ, Act.put, List.setIfInBounds_toArray, List.set_cons_zero, List.set_cons_succ]
  refine wpAnyH_take (i := 23) (v := ?_) rfl (by decide +kernel) (by decide +kernel) (by decide +kernel) (fun _ _ _ h => h) (Or.inl ⟨by rfl, ?_⟩) (by assumption) ?_
  rotate_left
  · intro w1 hSw; (try dsimp only at hSw); (try simp only [List.getElem_toArray, List.getElem_cons_zero, List.getElem_cons_succ]); go_simp; try with_reducible rfl
  try simp only [List.getElem_toArray, List.getElem_cons_zero, List.getElem_cons_succ, Act.put, List.setIfInBounds_toArray, List.set_cons_zero, List.set_cons_succ]
  refine wpAnyH_done (by decide +kernel) ?_ _
  clear hH
  clear ca0 ca1 ca2 cb0 cb1 cb2
  obtain ⟨cx0, cx1, cx2⟩ := gx.out.all
  dsimp only at cx0 cx1 cx2
  go_wp2_with fail
  refine (rf.on _).mono ?_
  rintro e w21 ⟨rfl, hb21⟩
  replace gx := Lib.hid (isN_of hb21 gx.out)
  replace ga := Lib.hid (isN_of hb21 ga.out)
  replace gb := Lib.hid (isN_of hb21 gb.out)
  replace hb := Lib.hid (hb.out.trans (hb21.mono hs))
  clear hs hb21
  have hs := hb.out.size
  clear cx0 cx1 cx2
  obtain ⟨cx0, cx1, cx2⟩ := gx.out.all
  dsimp only at cx0 cx1 cx2
  go_wp2_with fail
  refine (pu.on _).mono ?_
  rintro e w22 ⟨rfl, hb22⟩
  replace gx := Lib.hid (isN_of hb22 gx.out)
  replace ga := Lib.hid (isN_of hb22 ga.out)
  replace gb := Lib.hid (isN_of hb22 gb.out)
  replace hb := Lib.hid (hb.out.trans (hb22.mono hs))
  clear hs hb22
  have hs := hb.out.size
  clear cx0 cx1 cx2
  obtain ⟨cx0, cx1, cx2⟩ := gx.out.all
  dsimp only at cx0 cx1 cx2
  go_wp2_with fail
  refine (ft.on _).mono ?_
  rintro e w23 ⟨rfl, hb23⟩
  replace gx := Lib.hid (isN_of hb23 gx.out)
  replace ga := Lib.hid (isN_of hb23 ga.out)
  replace gb := Lib.hid (isN_of hb23 gb.out)
  replace hb := Lib.hid (hb.out.trans (hb23.mono hs))
  clear hs hb23
  have hs := hb.out.size
  have kx := gx.out.lt
  have ka := ga.out.lt
  have kb := gb.out.lt
  have hle := hs
  clear cx0 cx1 cx2
  replace gx := Lib.hid (gx.out.alloc (oN ⟨false, 0, 0⟩))
  replace ga := Lib.hid (ga.out.alloc (oN ⟨false, 0, 0⟩))
  replace gb := Lib.hid (gb.out.alloc (oN ⟨false, 0, 0⟩))
  have gv := Lib.hid (IsN.new w23 ⟨false, 0, 0⟩)
  replace hb := Lib.hid (hb.out.alloc hs (oN ⟨false, 0, 0⟩))
  clear hs
  have hs := hb.out.size
  go_wp2_with fail
  refine (cb.on _).mono ?_
  rintro e w24 ⟨rfl, hb24⟩
  replace gx := Lib.hid (isN_of hb24 gx.out)
  replace ga := Lib.hid (isN_of hb24 ga.out)
  replace gb := Lib.hid (isN_of hb24 gb.out)
  replace gv := Lib.hid (isN_of hb24 gv.out)
  replace hb := Lib.hid (hb.out.trans (hb24.mono hs))
  clear hs hb24
  have hs := hb.out.size
  replace hsz := hsz.out
  obtain ⟨cx0, cx1, cx2⟩ := gx.out.all
  dsimp only at cx0 cx1 cx2
  go_wp2_with fail
  refine (gd.on _).mono ?_
  rintro e w25 ⟨rfl, hb25⟩
  replace gx := Lib.hid (isN_of hb25 gx.out)
  replace ga := Lib.hid (isN_of hb25 ga.out)
  replace gb := Lib.hid (isN_of hb25 gb.out)
  replace gv := Lib.hid (isN_of hb25 gv.out)
  replace hb := Lib.hid (hb.out.trans (hb25.mono hs))
  clear hs hb25
  have hs := hb.out.size
  replace hb := Lib.hid (below_drewed hb.out)
  clear hs
  have hs := hb.out.size
  clear cx0 cx1 cx2
  obtain ⟨cx0, cx1, cx2⟩ := gx.out.all
  obtain ⟨cv0, cv1, cv2⟩ := gv.out.all
  dsimp only at cx0 cx1 cx2 cv0 cv1 cv2
  go_wp2_with fail
  refine wp_region_held_at (S := fun w1 => w1.cell? ⟨w.heap.size, 0, none⟩ = some (.bool xn) ∧ w1.cell? ⟨w.heap.size, 1, none⟩ = some (.int .u64 xh) ∧ w1.cell? ⟨w.heap.size, 2, none⟩ = some (.int .u64 xl) ∧ w1.cell? ⟨w23.heap.size, 0, none⟩ = some (.bool false) ∧ w1.cell? ⟨w23.heap.size, 1, none⟩ = some (.int .u64 0) ∧ w1.cell? ⟨w23.heap.size, 2, none⟩ = some (.int .u64 0)) 5 rfl (by kernel_rfl) (by go_keep) (fun hH => ?_)
  refine wpAnyH_take (i := 0) (v := ?_) rfl (by decide +kernel) (by decide +kernel) (by decide +kernel) (fun _ _ _ h => h) (Or.inl ⟨by rfl, ?_⟩) (by assumption) ?_
  rotate_left
  · intro w1 hSw; (try dsimp only at hSw); (try simp only [List.getElem_toArray, List.getElem_cons_zero]); go_simp; try with_reducible rfl
  try simp only [List.getElem_toArray, List.getElem_cons_zero, Act.put, List.setIfInBounds_toArray, List.set_cons_zero, List.set_cons_succ]
  refine wpAnyH_take (i := 1) (v := ?_) rfl (by decide +kernel) (by decide +kernel) (by decide +kernel) (fun _ _ _ h => h) (Or.inl ⟨by rfl, ?_⟩) (by assumption) ?_
  rotate_left
  · intro w1 hSw; (try dsimp only at hSw); (try simp only [List.getElem_toArray, List.getElem_cons_zero, List.getElem_cons_succ]); go_simp; try with_reducible rfl
  try simp only [List.getElem_toArray, List.getElem_cons_zero, List.getElem_cons_succ, Act.put, List.setIfInBounds_toArray, List.set_cons_zero, List.set_cons_succ]
  refine wpAnyH_take (i := 3) (v := ?_) rfl (by decide +kernel) (by decide +kernel) (by decide +kernel) (fun _ _ _ h => h) (Or.inl ⟨by rfl, ?_⟩) (by assumption) ?_
  rotate_left
  · intro w1 hSw; (try dsimp only at hSw); (try simp only [List.getElem_toArray, List.getElem_cons_zero, List.getElem_cons_succ]); go_simp; try with_reducible rfl
  try simp only [List.getElem_toArray, List.getElem_cons_zero, List.getElem_cons_succ, Act.put, List.setIfInBounds_toArray, List.set_cons_zero, List.set_cons_succ]
  refine wpAnyH_ready (rs := [2]) (by decide +kernel) (by simp) ?_
  refine AllReadyH.cons rfl (fun K hK => ?_) AllReadyH.nil
  (try simp only [List.getElem_toArray, List.getElem_cons_zero, List.getElem_cons_succ])
  go_simp
  refine (ck.on _).mono ?_
  rintro e wr ⟨rfl, hbr⟩
  have hb2 := Lib.hid (hb.out.trans (hbr.mono hs))
  clear hb hs
  have hb := hb2
  clear hb2
  have hs := hb.out.size
  have gg := Lib.hid (isN_of hbr gx.out)
  clear gx
  have gx := gg
  clear gg
  have gg := Lib.hid (isN_of hbr ga.out)
  clear ga
  have ga := gg
  clear gg
  have gg := Lib.hid (isN_of hbr gb.out)
  clear gb
  have gb := gg
  clear gg
  have gg := Lib.hid (isN_of hbr gv.out)
  clear gv
  have gv := gg
  clear gg
  clear hH hbr cx0 cx1 cx2 cv0 cv1 cv2
  obtain ⟨cx0, cx1, cx2⟩ := gx.out.all
  obtain ⟨cv0, cv1, cv2⟩ := gv.out.all
  dsimp only at cx0 cx1 cx2 cv0 cv1 cv2
  go_simp
  refine hK.out _ _ (by go_keep) (fun hH => ?_)
  clear hK K
  try simp only [List.getElem_toArray, List.getElem_cons_zero, List.getElem_cons_succ, Act.put, List.setIfInBounds_toArray, List.set_cons_zero, List.set_cons_succ]
  refine wpAnyH_take (i := 4) (v := ?_) rfl (by decide +kernel) (by decide +kernel) (by decide +kernel) (fun _ _ _ h => h) (Or.inl ⟨by rfl, ?_⟩) (by assumption) ?_
  rotate_left
  · intro w1 hSw; (try dsimp only at hSw); (try simp only [List.getElem_toArray, List.getElem_cons_zero, List.getElem_cons_succ]); go_simp; try with_reducible rfl
  try simp only [List.getElem_toArray, List.getElem_cons_zero, List.getElem_cons_succ, Act.put, List.setIfInBounds_toArray, List.set_cons_zero, List.set_cons_succ]
  refine wpAnyH_done (by decide +kernel) ?_ _
  clear hH
  clear cx0 cx1 cx2 cv0 cv1 cv2
  replace hsz0 := hsz0.out
  go_wp2_with fail
  refine (cb.on _).mono ?_
  rintro e w41 ⟨rfl, hb41⟩
  replace gx := Lib.hid (isN_of hb41 gx.out)
  replace ga := Lib.hid (isN_of hb41 ga.out)
  replace gb := Lib.hid (isN_of hb41 gb.out)
  replace gv := Lib.hid (isN_of hb41 gv.out)
  replace hb := Lib.hid (hb.out.trans (hb41.mono hs))
  clear hs hb41
  have hs := hb.out.size
  go_wp2_with fail
  go_ret
  exact ⟨rfl, hb.out⟩

set_option maxRecDepth 100000 in
set_option maxHeartbeats 8000000 in
theorem fieldExact_L (k : Int) (x A B : WI) (sz : Int) (nm : ByteArray) (bd : Ret 14 #[.int .i64 k] (.tuple #[wv A, wv B])) (cs : Ret 15 #[.int .i64 k] (.int .i64 sz)) (cb : Ret 11 #[.int .i64 k] (.int .i64 sz))
    (cn : Ret 16 #[.int .i64 k] (.string nm)) (cr : Ret 12 #[.int .i64 k] (.string nm)) (cl : Ret 17 #[.int .i64 k] (wv A)) (cg : Ret 18 #[.int .i64 k] (wv B))
    (rf : Ret 19 #[.int .i64 k, wv x] (.bool false)) (pu : Ret 20 #[.int .i64 k, wv x] (.tuple #[.string ByteArray.empty, .int .i64 3])) (ft : Ret 21 #[.int .i64 k, wv x] (.bool false)) (ck : Ret 25 #[.int .i64 k, wv x] (wv A)) (hsz : decide (0 < sz) = true) (hsz0 : (sz == 0) = false) (gd : Ret 23 #[wv x] (.bool true)) (u1 u2 : Int) (c1 : Ret 24 #[wv x, wv A] (.int .i64 u1)) (c2 : Ret 24 #[wv x, wv B] (.int .i64 u2)) (d1 : decide (u1 < 0) = true) (d2 : decide (0 < u2) = false) (w : World) :
    Calls Try.prog 4 #[.int .i64 k, wv x] w fun e w' => e = .returned (.bool true) ∧ Below w.heap.size w w' := by
  obtain ⟨xn, xh, xl⟩ := x
  obtain ⟨An, Ah, Al⟩ := A
  obtain ⟨Bn, Bh, Bl⟩ := B
  unfold wv at *
  dsimp only at *
  replace hsz := Lib.hid hsz
  replace hsz0 := Lib.hid hsz0
  replace d1 := Lib.hid d1
  replace d2 := Lib.hid d2
  go_enter Try.func4, Try.ntmps4
  go_wp2_with fail
  refine (awake_c.on _).mono ?_
  rintro e w1 ⟨rfl, hb1⟩
  obtain ⟨gx, hb⟩ := one_new (x := ⟨xn, xh, xl⟩) hb1
  have hs := hb.size
  clear hb1
  replace gx := Lib.hid gx
  replace hb := Lib.hid hb
  go_wp2_with fail
  refine (bd.on _).mono ?_
  rintro e w2 ⟨rfl, hb2⟩
  replace gx := Lib.hid (isN_of hb2 gx.out)
  replace hb := Lib.hid (hb.out.trans (hb2.mono hs))
  clear hs hb2
  have hs := hb.out.size
  have l1 := gx.out.lt
  replace gx := Lib.hid ((gx.out.alloc (oN ⟨An, Ah, Al⟩)).alloc (oN ⟨Bn, Bh, Bl⟩))
  have ga := Lib.hid ((IsN.new w2 ⟨An, Ah, Al⟩).alloc (oN ⟨Bn, Bh, Bl⟩))
  have gb := Lib.hid (show IsN ((w2.alloc (oN ⟨An, Ah, Al⟩)).alloc (oN ⟨Bn, Bh, Bl⟩)) (w2.heap.size + 1) ⟨Bn, Bh, Bl⟩ from by have h := IsN.new (w2.alloc (oN ⟨An, Ah, Al⟩)) ⟨Bn, Bh, Bl⟩; rwa [size_alloc] at h)
  replace hb := Lib.hid ((hb.out.alloc hs (oN ⟨An, Ah, Al⟩)).alloc (by rw [size_alloc]; omega) (oN ⟨Bn, Bh, Bl⟩))
  clear hs
  have hs := hb.out.size
  replace hb := Lib.hid (below_drewed hb.out)
  clear hs
  have hs := hb.out.size
  obtain ⟨ca0, ca1, ca2⟩ := ga.out.all
  obtain ⟨cb0, cb1, cb2⟩ := gb.out.all
  dsimp only at ca0 ca1 ca2 cb0 cb1 cb2
  go_wp2_with fail
  refine wp_region_held_at (S := fun w1 => w1.cell? ⟨w2.heap.size, 0, none⟩ = some (.bool An) ∧ w1.cell? ⟨w2.heap.size, 1, none⟩ = some (.int .u64 Ah) ∧ w1.cell? ⟨w2.heap.size, 2, none⟩ = some (.int .u64 Al) ∧ w1.cell? ⟨w2.heap.size + 1, 0, none⟩ = some (.bool Bn) ∧ w1.cell? ⟨w2.heap.size + 1, 1, none⟩ = some (.int .u64 Bh) ∧ w1.cell? ⟨w2.heap.size + 1, 2, none⟩ = some (.int .u64 Bl)) 24 rfl (by kernel_rfl) (by go_keep) (fun hH => ?_)
  refine wpAnyH_take (i := 0) (v := ?_) rfl (by decide +kernel) (by decide +kernel) (by decide +kernel) (fun _ _ _ h => h) (Or.inl ⟨by rfl, ?_⟩) (by assumption) ?_
  rotate_left
  · intro w1 hSw; (try dsimp only at hSw); (try simp only [List.getElem_toArray, List.getElem_cons_zero]); go_simp; try with_reducible rfl
  try simp only [List.getElem_toArray, List.getElem_cons_zero, Act.put, List.setIfInBounds_toArray, List.set_cons_zero, List.set_cons_succ]
  refine wpAnyH_take (i := 2) (v := ?_) rfl (by decide +kernel) (by decide +kernel) (by decide +kernel) (fun _ _ _ h => h) (Or.inl ⟨by rfl, ?_⟩) (by assumption) ?_
  rotate_left
  · intro w1 hSw; (try dsimp only at hSw); (try simp only [List.getElem_toArray, List.getElem_cons_zero, List.getElem_cons_succ]); go_simp; try with_reducible rfl
  try simp only [List.getElem_toArray, List.getElem_cons_zero, List.getElem_cons_succ, Act.put, List.setIfInBounds_toArray, List.set_cons_zero, List.set_cons_succ]
  refine wpAnyH_ready (rs := [1]) (by decide +kernel) (by simp) ?_
  refine AllReadyH.cons rfl (fun K hK => ?_) AllReadyH.nil
  (try simp only [List.getElem_toArray, List.getElem_cons_zero, List.getElem_cons_succ])
  go_simp
  refine (cs.on _).mono ?_
  rintro e wr ⟨rfl, hbr⟩
  have hb2 := Lib.hid (hb.out.trans (hbr.mono hs))
  clear hb hs
  have hb := hb2
  clear hb2
  have hs := hb.out.size
  have gg := Lib.hid (isN_of hbr gx.out)
  clear gx
  have gx := gg
  clear gg
  have gg := Lib.hid (isN_of hbr ga.out)
  clear ga
  have ga := gg
  clear gg
  have gg := Lib.hid (isN_of hbr gb.out)
  clear gb
  have gb := gg
  clear gg
  clear hH hbr ca0 ca1 ca2 cb0 cb1 cb2
  obtain ⟨ca0, ca1, ca2⟩ := ga.out.all
  obtain ⟨cb0, cb1, cb2⟩ := gb.out.all
  dsimp only at ca0 ca1 ca2 cb0 cb1 cb2
  go_simp
  refine hK.out _ _ (by go_keep) (fun hH => ?_)
  clear hK K
  try simp only [List.getElem_toArray, List.getElem_cons_zero, List.getElem_cons_succ, Act.put, List.setIfInBounds_toArray, List.set_cons_zero, List.set_cons_succ]
  refine wpAnyH_ready (rs := [3]) (by decide +kernel) (by simp) ?_
  refine AllReadyH.cons rfl (fun K hK => ?_) AllReadyH.nil
  (try simp only [List.getElem_toArray, List.getElem_cons_zero, List.getElem_cons_succ])
  go_simp
  refine (cb.on _).mono ?_
  rintro e wr ⟨rfl, hbr⟩
  have hb2 := Lib.hid (hb.out.trans (hbr.mono hs))
  clear hb hs
  have hb := hb2
  clear hb2
  have hs := hb.out.size
  have gg := Lib.hid (isN_of hbr gx.out)
  clear gx
  have gx := gg
  clear gg
  have gg := Lib.hid (isN_of hbr ga.out)
  clear ga
  have ga := gg
  clear gg
  have gg := Lib.hid (isN_of hbr gb.out)
  clear gb
  have gb := gg
  clear gg
  clear hH hbr ca0 ca1 ca2 cb0 cb1 cb2
  obtain ⟨ca0, ca1, ca2⟩ := ga.out.all
  obtain ⟨cb0, cb1, cb2⟩ := gb.out.all
  dsimp only at ca0 ca1 ca2 cb0 cb1 cb2
  go_simp
  refine hK.out _ _ (by go_keep) (fun hH => ?_)
  clear hK K
  try simp only [List.getElem_toArray, List.getElem_cons_zero, List.getElem_cons_succ, Act.put, List.setIfInBounds_toArray, List.set_cons_zero, List.set_cons_succ]
  refine wpAnyH_take (i := 4) (v := ?_) rfl (by decide +kernel) (by decide +kernel) (by decide +kernel) (fun _ _ _ h => h) (Or.inl ⟨by rfl, ?_⟩) (by assumption) ?_
  rotate_left
  · intro w1 hSw; (try dsimp only at hSw); (try simp only [List.getElem_toArray, List.getElem_cons_zero, List.getElem_cons_succ]); go_simp; try with_reducible rfl
  try simp only [List.getElem_toArray, List.getElem_cons_zero, List.getElem_cons_succ, Act.put, List.setIfInBounds_toArray, List.set_cons_zero, List.set_cons_succ]
  refine wpAnyH_take (i := 5) (v := ?_) rfl (by decide +kernel) (by decide +kernel) (by decide +kernel) (fun _ _ _ h => h) (Or.inl ⟨by rfl, ?_⟩) (by assumption) ?_
  rotate_left
  · intro w1 hSw; (try dsimp only at hSw); (try simp only [List.getElem_toArray, List.getElem_cons_zero, List.getElem_cons_succ]); go_simp; try with_reducible rfl
  try simp only [List.getElem_toArray, List.getElem_cons_zero, List.getElem_cons_succ, Act.put, List.setIfInBounds_toArray, List.set_cons_zero, List.set_cons_succ]
  refine wpAnyH_take (i := 6) (v := ?_) rfl (by decide +kernel) (by decide +kernel) (by decide +kernel) (fun _ _ _ h => h) (Or.inl ⟨by rfl, ?_⟩) (by assumption) ?_
  rotate_left
  · intro w1 hSw; (try dsimp only at hSw); (try simp only [List.getElem_toArray, List.getElem_cons_zero, List.getElem_cons_succ]); go_simp; try with_reducible rfl
  try simp only [List.getElem_toArray, List.getElem_cons_zero, List.getElem_cons_succ, Act.put, List.setIfInBounds_toArray, List.set_cons_zero, List.set_cons_succ]
  refine wpAnyH_take (i := 8) (v := ?_) rfl (by decide +kernel) (by decide +kernel) (by decide +kernel) (fun _ _ _ h => h) (Or.inl ⟨by rfl, ?_⟩) (by assumption) ?_
  rotate_left
  · intro w1 hSw; (try dsimp only at hSw); (try simp only [List.getElem_toArray, List.getElem_cons_zero, List.getElem_cons_succ]); go_simp; try with_reducible rfl
  try simp only [List.getElem_toArray, List.getElem_cons_zero, List.getElem_cons_succ, Act.put, List.setIfInBounds_toArray, List.set_cons_zero, List.set_cons_succ]
  refine wpAnyH_ready (rs := [7]) (by decide +kernel) (by simp) ?_
  refine AllReadyH.cons rfl (fun K hK => ?_) AllReadyH.nil
  (try simp only [List.getElem_toArray, List.getElem_cons_zero, List.getElem_cons_succ])
  go_simp
  refine (cn.on _).mono ?_
  rintro e wr ⟨rfl, hbr⟩
  have hb2 := Lib.hid (hb.out.trans (hbr.mono hs))
  clear hb hs
  have hb := hb2
  clear hb2
  have hs := hb.out.size
  have gg := Lib.hid (isN_of hbr gx.out)
  clear gx
  have gx := gg
  clear gg
  have gg := Lib.hid (isN_of hbr ga.out)
  clear ga
  have ga := gg
  clear gg
  have gg := Lib.hid (isN_of hbr gb.out)
  clear gb
  have gb := gg
  clear gg
  clear hH hbr ca0 ca1 ca2 cb0 cb1 cb2
  obtain ⟨ca0, ca1, ca2⟩ := ga.out.all
  obtain ⟨cb0, cb1, cb2⟩ := gb.out.all
  dsimp only at ca0 ca1 ca2 cb0 cb1 cb2
  go_simp
  refine hK.out _ _ (by go_keep) (fun hH => ?_)
  clear hK K
  try simp only [List.getElem_toArray, List.getElem_cons_zero, List.getElem_cons_succ, Act.put, List.setIfInBounds_toArray, List.set_cons_zero, List.set_cons_succ]
  refine wpAnyH_ready (rs := [9]) (by decide +kernel) (by simp) ?_
  refine AllReadyH.cons rfl (fun K hK => ?_) AllReadyH.nil
  (try simp only [List.getElem_toArray, List.getElem_cons_zero, List.getElem_cons_succ])
  go_simp
  refine (cr.on _).mono ?_
  rintro e wr ⟨rfl, hbr⟩
  have hb2 := Lib.hid (hb.out.trans (hbr.mono hs))
  clear hb hs
  have hb := hb2
  clear hb2
  have hs := hb.out.size
  have gg := Lib.hid (isN_of hbr gx.out)
  clear gx
  have gx := gg
  clear gg
  have gg := Lib.hid (isN_of hbr ga.out)
  clear ga
  have ga := gg
  clear gg
  have gg := Lib.hid (isN_of hbr gb.out)
  clear gb
  have gb := gg
  clear gg
  clear hH hbr ca0 ca1 ca2 cb0 cb1 cb2
  obtain ⟨ca0, ca1, ca2⟩ := ga.out.all
  obtain ⟨cb0, cb1, cb2⟩ := gb.out.all
  dsimp only at ca0 ca1 ca2 cb0 cb1 cb2
  go_simp
  refine hK.out _ _ (by go_keep) (fun hH => ?_)
  clear hK K
  try simp only [List.getElem_toArray, List.getElem_cons_zero, List.getElem_cons_succ, Act.put, List.setIfInBounds_toArray, List.set_cons_zero, List.set_cons_succ]
  refine wpAnyH_take (i := 10) (v := ?_) rfl (by decide +kernel) (by decide +kernel) (by decide +kernel) (fun _ _ _ h => h) (Or.inl ⟨by rfl, ?_⟩) (by assumption) ?_
  rotate_left
  · intro w1 hSw; (try dsimp only at hSw); (try simp only [List.getElem_toArray, List.getElem_cons_zero, List.getElem_cons_succ]); go_simp; try with_reducible rfl
  try simp only [List.getElem_toArray, List.getElem_cons_zero, List.getElem_cons_succ, Act.put, List.setIfInBounds_toArray, List.set_cons_zero, List.set_cons_succ]
  refine wpAnyH_take (i := 11) (v := ?_) rfl (by decide +kernel) (by decide +kernel) (by decide +kernel) (fun _ _ _ h => h) (Or.inl ⟨by rfl, ?_⟩) (by assumption) ?_
  rotate_left
  · intro w1 hSw; (try dsimp only at hSw); (try simp only [List.getElem_toArray, List.getElem_cons_zero, List.getElem_cons_succ]); go_simp; try with_reducible rfl
  try simp only [List.getElem_toArray, List.getElem_cons_zero, List.getElem_cons_succ, Act.put, List.setIfInBounds_toArray, List.set_cons_zero, List.set_cons_succ]
  refine wpAnyH_take (i := 12) (v := ?_) rfl (by decide +kernel) (by decide +kernel) (by decide +kernel) (fun _ _ _ h => h) (Or.inl ⟨by rfl, ?_⟩) (by assumption) ?_
  rotate_left
  · intro w1 hSw; (try dsimp only at hSw); (try simp only [List.getElem_toArray, List.getElem_cons_zero, List.getElem_cons_succ]); go_simp; try with_reducible rfl
  try simp only [List.getElem_toArray, List.getElem_cons_zero, List.getElem_cons_succ, Act.put, List.setIfInBounds_toArray, List.set_cons_zero, List.set_cons_succ]
  refine wpAnyH_take (i := 13) (v := ?_) rfl (by decide +kernel) (by decide +kernel) (by decide +kernel) (fun _ _ _ h => h) (Or.inl ⟨by rfl, ?_⟩) (by assumption) ?_
  rotate_left
  · intro w1 hSw; (try dsimp only at hSw); (try simp only [List.getElem_toArray, List.getElem_cons_zero, List.getElem_cons_succ]); go_simp; try with_reducible rfl
  try simp only [List.getElem_toArray, List.getElem_cons_zero, List.getElem_cons_succ, Act.put, List.setIfInBounds_toArray, List.set_cons_zero, List.set_cons_succ]
  refine wpAnyH_take (i := 15) (v := ?_) rfl (by decide +kernel) (by decide +kernel) (by decide +kernel) (fun _ _ _ h => h) (Or.inl ⟨by rfl, ?_⟩) (by assumption) ?_
  rotate_left
  · intro w1 hSw; (try dsimp only at hSw); (try simp only [List.getElem_toArray, List.getElem_cons_zero, List.getElem_cons_succ]); go_simp; try with_reducible rfl
  try simp only [List.getElem_toArray, List.getElem_cons_zero, List.getElem_cons_succ, Act.put, List.setIfInBounds_toArray, List.set_cons_zero, List.set_cons_succ]
  refine wpAnyH_ready (rs := [14]) (by decide +kernel) (by simp) ?_
  refine AllReadyH.cons rfl (fun K hK => ?_) AllReadyH.nil
  (try simp only [List.getElem_toArray, List.getElem_cons_zero, List.getElem_cons_succ])
  go_simp
  refine (cl.on _).mono ?_
  rintro e wr ⟨rfl, hbr⟩
  have hb2 := Lib.hid (hb.out.trans (hbr.mono hs))
  clear hb hs
  have hb := hb2
  clear hb2
  have hs := hb.out.size
  have gg := Lib.hid (isN_of hbr gx.out)
  clear gx
  have gx := gg
  clear gg
  have gg := Lib.hid (isN_of hbr ga.out)
  clear ga
  have ga := gg
  clear gg
  have gg := Lib.hid (isN_of hbr gb.out)
  clear gb
  have gb := gg
  clear gg
  clear hH hbr ca0 ca1 ca2 cb0 cb1 cb2
  obtain ⟨ca0, ca1, ca2⟩ := ga.out.all
  obtain ⟨cb0, cb1, cb2⟩ := gb.out.all
  dsimp only at ca0 ca1 ca2 cb0 cb1 cb2
  go_simp
  refine hK.out _ _ (by go_keep) (fun hH => ?_)
  clear hK K
  try simp only [List.getElem_toArray, List.getElem_cons_zero, List.getElem_cons_succ, Act.put, List.setIfInBounds_toArray, List.set_cons_zero, List.set_cons_succ]
  refine wpAnyH_take (i := 16) (v := ?_) rfl (by decide +kernel) (by decide +kernel) (by decide +kernel) (fun _ _ _ h => h) (Or.inl ⟨by rfl, ?_⟩) (by assumption) ?_
  rotate_left
  · intro w1 hSw; (try dsimp only at hSw); (try simp only [List.getElem_toArray, List.getElem_cons_zero, List.getElem_cons_succ]); go_simp; try with_reducible rfl
  try simp only [List.getElem_toArray, List.getElem_cons_zero, List.getElem_cons_succ, Act.put, List.setIfInBounds_toArray, List.set_cons_zero, List.set_cons_succ]
  refine wpAnyH_take (i := 17) (v := ?_) rfl (by decide +kernel) (by decide +kernel) (by decide +kernel) (fun _ _ _ h => h) (Or.inl ⟨by rfl, ?_⟩) (by assumption) ?_
  rotate_left
  · intro w1 hSw; (try dsimp only at hSw); (try simp only [List.getElem_toArray, List.getElem_cons_zero, List.getElem_cons_succ]); go_simp; try with_reducible rfl
  try simp only [List.getElem_toArray, List.getElem_cons_zero, List.getElem_cons_succ, Act.put, List.setIfInBounds_toArray, List.set_cons_zero, List.set_cons_succ]
  refine wpAnyH_take (i := 18) (v := ?_) rfl (by decide +kernel) (by decide +kernel) (by decide +kernel) (fun _ _ _ h => h) (Or.inl ⟨by rfl, ?_⟩) (by assumption) ?_
  rotate_left
  · intro w1 hSw; (try dsimp only at hSw); (try simp only [List.getElem_toArray, List.getElem_cons_zero, List.getElem_cons_succ]); go_simp; try with_reducible rfl
  try simp only [List.getElem_toArray, List.getElem_cons_zero, List.getElem_cons_succ, Act.put, List.setIfInBounds_toArray, List.set_cons_zero, List.set_cons_succ]
  refine wpAnyH_take (i := 19) (v := ?_) rfl (by decide +kernel) (by decide +kernel) (by decide +kernel) (fun _ _ _ h => h) (Or.inl ⟨by rfl, ?_⟩) (by assumption) ?_
  rotate_left
  · intro w1 hSw; (try dsimp only at hSw); (try simp only [List.getElem_toArray, List.getElem_cons_zero, List.getElem_cons_succ]); go_simp; try with_reducible rfl
  try simp only [List.getElem_toArray, List.getElem_cons_zero, List.getElem_cons_succ, Act.put, List.setIfInBounds_toArray, List.set_cons_zero, List.set_cons_succ]
  refine wpAnyH_take (i := 21) (v := ?_) rfl (by decide +kernel) (by decide +kernel) (by decide +kernel) (fun _ _ _ h => h) (Or.inl ⟨by rfl, ?_⟩) (by assumption) ?_
  rotate_left
  · intro w1 hSw; (try dsimp only at hSw); (try simp only [List.getElem_toArray, List.getElem_cons_zero, List.getElem_cons_succ]); go_simp; try with_reducible rfl
  try simp only [List.getElem_toArray, List.getElem_cons_zero, List.getElem_cons_succ, Act.put, List.setIfInBounds_toArray, List.set_cons_zero, List.set_cons_succ]
  refine wpAnyH_ready (rs := [20]) (by decide +kernel) (by simp) ?_
  refine AllReadyH.cons rfl (fun K hK => ?_) AllReadyH.nil
  (try simp only [List.getElem_toArray, List.getElem_cons_zero, List.getElem_cons_succ])
  go_simp
  refine (cg.on _).mono ?_
  rintro e wr ⟨rfl, hbr⟩
  have hb2 := Lib.hid (hb.out.trans (hbr.mono hs))
  clear hb hs
  have hb := hb2
  clear hb2
  have hs := hb.out.size
  have gg := Lib.hid (isN_of hbr gx.out)
  clear gx
  have gx := gg
  clear gg
  have gg := Lib.hid (isN_of hbr ga.out)
  clear ga
  have ga := gg
  clear gg
  have gg := Lib.hid (isN_of hbr gb.out)
  clear gb
  have gb := gg
  clear gg
  clear hH hbr ca0 ca1 ca2 cb0 cb1 cb2
  obtain ⟨ca0, ca1, ca2⟩ := ga.out.all
  obtain ⟨cb0, cb1, cb2⟩ := gb.out.all
  dsimp only at ca0 ca1 ca2 cb0 cb1 cb2
  go_simp
  refine hK.out _ _ (by go_keep) (fun hH => ?_)
  clear hK K
  try simp only [List.getElem_toArray, List.getElem_cons_zero, List.getElem_cons_succ, Act.put, List.setIfInBounds_toArray, List.set_cons_zero, List.set_cons_succ]
  refine wpAnyH_take (i := 22) (v := ?_) rfl (by decide +kernel) (by decide +kernel) (by decide +kernel) (fun _ _ _ h => h) (Or.inl ⟨by rfl, ?_⟩) (by assumption) ?_
  rotate_left
  · intro w1 hSw; (try dsimp only at hSw); (try simp only [List.getElem_toArray, List.getElem_cons_zero, List.getElem_cons_succ]); go_simp; try with_reducible rfl
  try simp only [List.getElem_toArray, List.getElem_cons_zero, List.getElem_cons_succ, Act.put, List.setIfInBounds_toArray, List.set_cons_zero, List.set_cons_succ]
  refine wpAnyH_take (i := 23) (v := ?_) rfl (by decide +kernel) (by decide +kernel) (by decide +kernel) (fun _ _ _ h => h) (Or.inl ⟨by rfl, ?_⟩) (by assumption) ?_
  rotate_left
  · intro w1 hSw; (try dsimp only at hSw); (try simp only [List.getElem_toArray, List.getElem_cons_zero, List.getElem_cons_succ]); go_simp; try with_reducible rfl
  try simp only [List.getElem_toArray, List.getElem_cons_zero, List.getElem_cons_succ, Act.put, List.setIfInBounds_toArray, List.set_cons_zero, List.set_cons_succ]
  refine wpAnyH_done (by decide +kernel) ?_ _
  clear hH
  clear ca0 ca1 ca2 cb0 cb1 cb2
  obtain ⟨cx0, cx1, cx2⟩ := gx.out.all
  dsimp only at cx0 cx1 cx2
  go_wp2_with fail
  refine (rf.on _).mono ?_
  rintro e w21 ⟨rfl, hb21⟩
  replace gx := Lib.hid (isN_of hb21 gx.out)
  replace ga := Lib.hid (isN_of hb21 ga.out)
  replace gb := Lib.hid (isN_of hb21 gb.out)
  replace hb := Lib.hid (hb.out.trans (hb21.mono hs))
  clear hs hb21
  have hs := hb.out.size
  clear cx0 cx1 cx2
  obtain ⟨cx0, cx1, cx2⟩ := gx.out.all
  dsimp only at cx0 cx1 cx2
  go_wp2_with fail
  refine (pu.on _).mono ?_
  rintro e w22 ⟨rfl, hb22⟩
  replace gx := Lib.hid (isN_of hb22 gx.out)
  replace ga := Lib.hid (isN_of hb22 ga.out)
  replace gb := Lib.hid (isN_of hb22 gb.out)
  replace hb := Lib.hid (hb.out.trans (hb22.mono hs))
  clear hs hb22
  have hs := hb.out.size
  clear cx0 cx1 cx2
  obtain ⟨cx0, cx1, cx2⟩ := gx.out.all
  dsimp only at cx0 cx1 cx2
  go_wp2_with fail
  refine (ft.on _).mono ?_
  rintro e w23 ⟨rfl, hb23⟩
  replace gx := Lib.hid (isN_of hb23 gx.out)
  replace ga := Lib.hid (isN_of hb23 ga.out)
  replace gb := Lib.hid (isN_of hb23 gb.out)
  replace hb := Lib.hid (hb.out.trans (hb23.mono hs))
  clear hs hb23
  have hs := hb.out.size
  have kx := gx.out.lt
  have ka := ga.out.lt
  have kb := gb.out.lt
  have hle := hs
  clear cx0 cx1 cx2
  replace gx := Lib.hid (gx.out.alloc (oN ⟨false, 0, 0⟩))
  replace ga := Lib.hid (ga.out.alloc (oN ⟨false, 0, 0⟩))
  replace gb := Lib.hid (gb.out.alloc (oN ⟨false, 0, 0⟩))
  have gv := Lib.hid (IsN.new w23 ⟨false, 0, 0⟩)
  replace hb := Lib.hid (hb.out.alloc hs (oN ⟨false, 0, 0⟩))
  clear hs
  have hs := hb.out.size
  go_wp2_with fail
  refine (cb.on _).mono ?_
  rintro e w24 ⟨rfl, hb24⟩
  replace gx := Lib.hid (isN_of hb24 gx.out)
  replace ga := Lib.hid (isN_of hb24 ga.out)
  replace gb := Lib.hid (isN_of hb24 gb.out)
  replace gv := Lib.hid (isN_of hb24 gv.out)
  replace hb := Lib.hid (hb.out.trans (hb24.mono hs))
  clear hs hb24
  have hs := hb.out.size
  replace hsz := hsz.out
  obtain ⟨cx0, cx1, cx2⟩ := gx.out.all
  dsimp only at cx0 cx1 cx2
  go_wp2_with fail
  refine (gd.on _).mono ?_
  rintro e w25 ⟨rfl, hb25⟩
  replace gx := Lib.hid (isN_of hb25 gx.out)
  replace ga := Lib.hid (isN_of hb25 ga.out)
  replace gb := Lib.hid (isN_of hb25 gb.out)
  replace gv := Lib.hid (isN_of hb25 gv.out)
  replace hb := Lib.hid (hb.out.trans (hb25.mono hs))
  clear hs hb25
  have hs := hb.out.size
  clear cx0 cx1 cx2
  obtain ⟨cx0, cx1, cx2⟩ := gx.out.all
  obtain ⟨cv0, cv1, cv2⟩ := gv.out.all
  dsimp only at cx0 cx1 cx2 cv0 cv1 cv2
  have vf := gv.out.f
  go_upto_region 13 with fail
  clear vf
  clear cx0 cx1 cx2 cv0 cv1 cv2
  replace gx := Lib.hid (gx.out.set3_other (c := w23.heap.size) (v0 := .bool xn) (v1 := .int .u64 xh) (v2 := .int .u64 xl) (by omega))
  replace ga := Lib.hid (ga.out.set3_other (c := w23.heap.size) (v0 := .bool xn) (v1 := .int .u64 xh) (v2 := .int .u64 xl) (by omega))
  replace gb := Lib.hid (gb.out.set3_other (c := w23.heap.size) (v0 := .bool xn) (v1 := .int .u64 xh) (v2 := .int .u64 xl) (by omega))
  replace gv := Lib.hid (gv.out.set xn xh xl)
  replace hb := Lib.hid (below_set3 hb.out (b := w23.heap.size) (by omega) (.bool xn) (.int .u64 xh) (.int .u64 xl))
  clear hs
  have hs := hb.out.size
  obtain ⟨cx0, cx1, cx2⟩ := gx.out.all
  obtain ⟨ca0, ca1, ca2⟩ := ga.out.all
  dsimp only at cx0 cx1 cx2 ca0 ca1 ca2
  replace d1 := d1.out
  go_wp2_with fail
  refine (c1.on _).mono ?_
  rintro e w26 ⟨rfl, hb26⟩
  replace gx := Lib.hid (isN_of hb26 gx.out)
  replace ga := Lib.hid (isN_of hb26 ga.out)
  replace gb := Lib.hid (isN_of hb26 gb.out)
  replace gv := Lib.hid (isN_of hb26 gv.out)
  replace hb := Lib.hid (hb.out.trans (hb26.mono hs))
  clear hs hb26
  have hs := hb.out.size
  clear cx0 cx1 cx2 ca0 ca1 ca2
  obtain ⟨ca0, ca1, ca2⟩ := ga.out.all
  obtain ⟨cv0, cv1, cv2⟩ := gv.out.all
  dsimp only at ca0 ca1 ca2 cv0 cv1 cv2
  have vf := gv.out.f
  go_upto_region 15 with fail
  clear vf
  clear ca0 ca1 ca2 cv0 cv1 cv2
  replace gx := Lib.hid (gx.out.set3_other (c := w23.heap.size) (v0 := .bool An) (v1 := .int .u64 Ah) (v2 := .int .u64 Al) (by omega))
  replace ga := Lib.hid (ga.out.set3_other (c := w23.heap.size) (v0 := .bool An) (v1 := .int .u64 Ah) (v2 := .int .u64 Al) (by omega))
  replace gb := Lib.hid (gb.out.set3_other (c := w23.heap.size) (v0 := .bool An) (v1 := .int .u64 Ah) (v2 := .int .u64 Al) (by omega))
  replace gv := Lib.hid (gv.out.set An Ah Al)
  replace hb := Lib.hid (below_set3 hb.out (b := w23.heap.size) (by omega) (.bool An) (.int .u64 Ah) (.int .u64 Al))
  clear hs
  have hs := hb.out.size
  obtain ⟨cx0, cx1, cx2⟩ := gx.out.all
  obtain ⟨cb0, cb1, cb2⟩ := gb.out.all
  dsimp only at cx0 cx1 cx2 cb0 cb1 cb2
  replace d2 := d2.out
  go_wp2_with fail
  refine (c2.on _).mono ?_
  rintro e w27 ⟨rfl, hb27⟩
  replace gx := Lib.hid (isN_of hb27 gx.out)
  replace ga := Lib.hid (isN_of hb27 ga.out)
  replace gb := Lib.hid (isN_of hb27 gb.out)
  replace gv := Lib.hid (isN_of hb27 gv.out)
  replace hb := Lib.hid (hb.out.trans (hb27.mono hs))
  clear hs hb27
  have hs := hb.out.size
  replace hb := Lib.hid (below_drewed hb.out)
  clear hs
  have hs := hb.out.size
  clear cx0 cx1 cx2 cb0 cb1 cb2
  obtain ⟨cx0, cx1, cx2⟩ := gx.out.all
  obtain ⟨cv0, cv1, cv2⟩ := gv.out.all
  dsimp only at cx0 cx1 cx2 cv0 cv1 cv2
  go_wp2_with fail
  refine wp_region_held_at (S := fun w1 => w1.cell? ⟨w.heap.size, 0, none⟩ = some (.bool xn) ∧ w1.cell? ⟨w.heap.size, 1, none⟩ = some (.int .u64 xh) ∧ w1.cell? ⟨w.heap.size, 2, none⟩ = some (.int .u64 xl) ∧ w1.cell? ⟨w23.heap.size, 0, none⟩ = some (.bool An) ∧ w1.cell? ⟨w23.heap.size, 1, none⟩ = some (.int .u64 Ah) ∧ w1.cell? ⟨w23.heap.size, 2, none⟩ = some (.int .u64 Al)) 5 rfl (by kernel_rfl) (by go_keep) (fun hH => ?_)
  refine wpAnyH_take (i := 0) (v := ?_) rfl (by decide +kernel) (by decide +kernel) (by decide +kernel) (fun _ _ _ h => h) (Or.inl ⟨by rfl, ?_⟩) (by assumption) ?_
  rotate_left
  · intro w1 hSw; (try dsimp only at hSw); (try simp only [List.getElem_toArray, List.getElem_cons_zero]); go_simp; try with_reducible rfl
  try simp only [List.getElem_toArray, List.getElem_cons_zero, Act.put, List.setIfInBounds_toArray, List.set_cons_zero, List.set_cons_succ]
  refine wpAnyH_take (i := 1) (v := ?_) rfl (by decide +kernel) (by decide +kernel) (by decide +kernel) (fun _ _ _ h => h) (Or.inl ⟨by rfl, ?_⟩) (by assumption) ?_
  rotate_left
  · intro w1 hSw; (try dsimp only at hSw); (try simp only [List.getElem_toArray, List.getElem_cons_zero, List.getElem_cons_succ]); go_simp; try with_reducible rfl
  try simp only [List.getElem_toArray, List.getElem_cons_zero, List.getElem_cons_succ, Act.put, List.setIfInBounds_toArray, List.set_cons_zero, List.set_cons_succ]
  refine wpAnyH_take (i := 3) (v := ?_) rfl (by decide +kernel) (by decide +kernel) (by decide +kernel) (fun _ _ _ h => h) (Or.inl ⟨by rfl, ?_⟩) (by assumption) ?_
  rotate_left
  · intro w1 hSw; (try dsimp only at hSw); (try simp only [List.getElem_toArray, List.getElem_cons_zero, List.getElem_cons_succ]); go_simp; try with_reducible rfl
  try simp only [List.getElem_toArray, List.getElem_cons_zero, List.getElem_cons_succ, Act.put, List.setIfInBounds_toArray, List.set_cons_zero, List.set_cons_succ]
  refine wpAnyH_ready (rs := [2]) (by decide +kernel) (by simp) ?_
  refine AllReadyH.cons rfl (fun K hK => ?_) AllReadyH.nil
  (try simp only [List.getElem_toArray, List.getElem_cons_zero, List.getElem_cons_succ])
  go_simp
  refine (ck.on _).mono ?_
  rintro e wr ⟨rfl, hbr⟩
  have hb2 := Lib.hid (hb.out.trans (hbr.mono hs))
  clear hb hs
  have hb := hb2
  clear hb2
  have hs := hb.out.size
  have gg := Lib.hid (isN_of hbr gx.out)
  clear gx
  have gx := gg
  clear gg
  have gg := Lib.hid (isN_of hbr ga.out)
  clear ga
  have ga := gg
  clear gg
  have gg := Lib.hid (isN_of hbr gb.out)
  clear gb
  have gb := gg
  clear gg
  have gg := Lib.hid (isN_of hbr gv.out)
  clear gv
  have gv := gg
  clear gg
  clear hH hbr cx0 cx1 cx2 cv0 cv1 cv2
  obtain ⟨cx0, cx1, cx2⟩ := gx.out.all
  obtain ⟨cv0, cv1, cv2⟩ := gv.out.all
  dsimp only at cx0 cx1 cx2 cv0 cv1 cv2
  go_simp
  refine hK.out _ _ (by go_keep) (fun hH => ?_)
  clear hK K
  try simp only [List.getElem_toArray, List.getElem_cons_zero, List.getElem_cons_succ, Act.put, List.setIfInBounds_toArray, List.set_cons_zero, List.set_cons_succ]
  refine wpAnyH_take (i := 4) (v := ?_) rfl (by decide +kernel) (by decide +kernel) (by decide +kernel) (fun _ _ _ h => h) (Or.inl ⟨by rfl, ?_⟩) (by assumption) ?_
  rotate_left
  · intro w1 hSw; (try dsimp only at hSw); (try simp only [List.getElem_toArray, List.getElem_cons_zero, List.getElem_cons_succ]); go_simp; try with_reducible rfl
  try simp only [List.getElem_toArray, List.getElem_cons_zero, List.getElem_cons_succ, Act.put, List.setIfInBounds_toArray, List.set_cons_zero, List.set_cons_succ]
  refine wpAnyH_done (by decide +kernel) ?_ _
  clear hH
  clear cx0 cx1 cx2 cv0 cv1 cv2
  replace hsz0 := hsz0.out
  go_wp2_with fail
  refine (cb.on _).mono ?_
  rintro e w41 ⟨rfl, hb41⟩
  replace gx := Lib.hid (isN_of hb41 gx.out)
  replace ga := Lib.hid (isN_of hb41 ga.out)
  replace gb := Lib.hid (isN_of hb41 gb.out)
  replace gv := Lib.hid (isN_of hb41 gv.out)
  replace hb := Lib.hid (hb.out.trans (hb41.mono hs))
  clear hs hb41
  have hs := hb.out.size
  go_wp2_with fail
  go_ret
  exact ⟨rfl, hb.out⟩

set_option maxRecDepth 100000 in
set_option maxHeartbeats 8000000 in
theorem fieldExact_H (k : Int) (x A B : WI) (sz : Int) (nm : ByteArray) (bd : Ret 14 #[.int .i64 k] (.tuple #[wv A, wv B])) (cs : Ret 15 #[.int .i64 k] (.int .i64 sz)) (cb : Ret 11 #[.int .i64 k] (.int .i64 sz))
    (cn : Ret 16 #[.int .i64 k] (.string nm)) (cr : Ret 12 #[.int .i64 k] (.string nm)) (cl : Ret 17 #[.int .i64 k] (wv A)) (cg : Ret 18 #[.int .i64 k] (wv B))
    (rf : Ret 19 #[.int .i64 k, wv x] (.bool false)) (pu : Ret 20 #[.int .i64 k, wv x] (.tuple #[.string ByteArray.empty, .int .i64 3])) (ft : Ret 21 #[.int .i64 k, wv x] (.bool false)) (ck : Ret 25 #[.int .i64 k, wv x] (wv B)) (hsz : decide (0 < sz) = true) (hsz0 : (sz == 0) = false) (gd : Ret 23 #[wv x] (.bool true)) (u1 u2 : Int) (c1 : Ret 24 #[wv x, wv A] (.int .i64 u1)) (c2 : Ret 24 #[wv x, wv B] (.int .i64 u2)) (d1 : decide (u1 < 0) = false) (d2 : decide (0 < u2) = true) (w : World) :
    Calls Try.prog 4 #[.int .i64 k, wv x] w fun e w' => e = .returned (.bool true) ∧ Below w.heap.size w w' := by
  obtain ⟨xn, xh, xl⟩ := x
  obtain ⟨An, Ah, Al⟩ := A
  obtain ⟨Bn, Bh, Bl⟩ := B
  unfold wv at *
  dsimp only at *
  replace hsz := Lib.hid hsz
  replace hsz0 := Lib.hid hsz0
  replace d1 := Lib.hid d1
  replace d2 := Lib.hid d2
  go_enter Try.func4, Try.ntmps4
  go_wp2_with fail
  refine (awake_c.on _).mono ?_
  rintro e w1 ⟨rfl, hb1⟩
  obtain ⟨gx, hb⟩ := one_new (x := ⟨xn, xh, xl⟩) hb1
  have hs := hb.size
  clear hb1
  replace gx := Lib.hid gx
  replace hb := Lib.hid hb
  go_wp2_with fail
  refine (bd.on _).mono ?_
  rintro e w2 ⟨rfl, hb2⟩
  replace gx := Lib.hid (isN_of hb2 gx.out)
  replace hb := Lib.hid (hb.out.trans (hb2.mono hs))
  clear hs hb2
  have hs := hb.out.size
  have l1 := gx.out.lt
  replace gx := Lib.hid ((gx.out.alloc (oN ⟨An, Ah, Al⟩)).alloc (oN ⟨Bn, Bh, Bl⟩))
  have ga := Lib.hid ((IsN.new w2 ⟨An, Ah, Al⟩).alloc (oN ⟨Bn, Bh, Bl⟩))
  have gb := Lib.hid (show IsN ((w2.alloc (oN ⟨An, Ah, Al⟩)).alloc (oN ⟨Bn, Bh, Bl⟩)) (w2.heap.size + 1) ⟨Bn, Bh, Bl⟩ from by have h := IsN.new (w2.alloc (oN ⟨An, Ah, Al⟩)) ⟨Bn, Bh, Bl⟩; rwa [size_alloc] at h)
  replace hb := Lib.hid ((hb.out.alloc hs (oN ⟨An, Ah, Al⟩)).alloc (by rw [size_alloc]; omega) (oN ⟨Bn, Bh, Bl⟩))
  clear hs
  have hs := hb.out.size
  replace hb := Lib.hid (below_drewed hb.out)
  clear hs
  have hs := hb.out.size
  obtain ⟨ca0, ca1, ca2⟩ := ga.out.all
  obtain ⟨cb0, cb1, cb2⟩ := gb.out.all
  dsimp only at ca0 ca1 ca2 cb0 cb1 cb2
  go_wp2_with fail
  refine wp_region_held_at (S := fun w1 => w1.cell? ⟨w2.heap.size, 0, none⟩ = some (.bool An) ∧ w1.cell? ⟨w2.heap.size, 1, none⟩ = some (.int .u64 Ah) ∧ w1.cell? ⟨w2.heap.size, 2, none⟩ = some (.int .u64 Al) ∧ w1.cell? ⟨w2.heap.size + 1, 0, none⟩ = some (.bool Bn) ∧ w1.cell? ⟨w2.heap.size + 1, 1, none⟩ = some (.int .u64 Bh) ∧ w1.cell? ⟨w2.heap.size + 1, 2, none⟩ = some (.int .u64 Bl)) 24 rfl (by kernel_rfl) (by go_keep) (fun hH => ?_)
  refine wpAnyH_take (i := 0) (v := ?_) rfl (by decide +kernel) (by decide +kernel) (by decide +kernel) (fun _ _ _ h => h) (Or.inl ⟨by rfl, ?_⟩) (by assumption) ?_
  rotate_left
  · intro w1 hSw; (try dsimp only at hSw); (try simp only [List.getElem_toArray, List.getElem_cons_zero]); go_simp; try with_reducible rfl
  try simp only [List.getElem_toArray, List.getElem_cons_zero, Act.put, List.setIfInBounds_toArray, List.set_cons_zero, List.set_cons_succ]
  refine wpAnyH_take (i := 2) (v := ?_) rfl (by decide +kernel) (by decide +kernel) (by decide +kernel) (fun _ _ _ h => h) (Or.inl ⟨by rfl, ?_⟩) (by assumption) ?_
  rotate_left
  · intro w1 hSw; (try dsimp only at hSw); (try simp only [List.getElem_toArray, List.getElem_cons_zero, List.getElem_cons_succ]); go_simp; try with_reducible rfl
  try simp only [List.getElem_toArray, List.getElem_cons_zero, List.getElem_cons_succ, Act.put, List.setIfInBounds_toArray, List.set_cons_zero, List.set_cons_succ]
  refine wpAnyH_ready (rs := [1]) (by decide +kernel) (by simp) ?_
  refine AllReadyH.cons rfl (fun K hK => ?_) AllReadyH.nil
  (try simp only [List.getElem_toArray, List.getElem_cons_zero, List.getElem_cons_succ])
  go_simp
  refine (cs.on _).mono ?_
  rintro e wr ⟨rfl, hbr⟩
  have hb2 := Lib.hid (hb.out.trans (hbr.mono hs))
  clear hb hs
  have hb := hb2
  clear hb2
  have hs := hb.out.size
  have gg := Lib.hid (isN_of hbr gx.out)
  clear gx
  have gx := gg
  clear gg
  have gg := Lib.hid (isN_of hbr ga.out)
  clear ga
  have ga := gg
  clear gg
  have gg := Lib.hid (isN_of hbr gb.out)
  clear gb
  have gb := gg
  clear gg
  clear hH hbr ca0 ca1 ca2 cb0 cb1 cb2
  obtain ⟨ca0, ca1, ca2⟩ := ga.out.all
  obtain ⟨cb0, cb1, cb2⟩ := gb.out.all
  dsimp only at ca0 ca1 ca2 cb0 cb1 cb2
  go_simp
  refine hK.out _ _ (by go_keep) (fun hH => ?_)
  clear hK K
  try simp only [List.getElem_toArray, List.getElem_cons_zero, List.getElem_cons_succ, Act.put, List.setIfInBounds_toArray, List.set_cons_zero, List.set_cons_succ]
  refine wpAnyH_ready (rs := [3]) (by decide +kernel) (by simp) ?_
  refine AllReadyH.cons rfl (fun K hK => ?_) AllReadyH.nil
  (try simp only [List.getElem_toArray, List.getElem_cons_zero, List.getElem_cons_succ])
  go_simp
  refine (cb.on _).mono ?_
  rintro e wr ⟨rfl, hbr⟩
  have hb2 := Lib.hid (hb.out.trans (hbr.mono hs))
  clear hb hs
  have hb := hb2
  clear hb2
  have hs := hb.out.size
  have gg := Lib.hid (isN_of hbr gx.out)
  clear gx
  have gx := gg
  clear gg
  have gg := Lib.hid (isN_of hbr ga.out)
  clear ga
  have ga := gg
  clear gg
  have gg := Lib.hid (isN_of hbr gb.out)
  clear gb
  have gb := gg
  clear gg
  clear hH hbr ca0 ca1 ca2 cb0 cb1 cb2
  obtain ⟨ca0, ca1, ca2⟩ := ga.out.all
  obtain ⟨cb0, cb1, cb2⟩ := gb.out.all
  dsimp only at ca0 ca1 ca2 cb0 cb1 cb2
  go_simp
  refine hK.out _ _ (by go_keep) (fun hH => ?_)
  clear hK K
  try simp only [List.getElem_toArray, List.getElem_cons_zero, List.getElem_cons_succ, Act.put, List.setIfInBounds_toArray, List.set_cons_zero, List.set_cons_succ]
  refine wpAnyH_take (i := 4) (v := ?_) rfl (by decide +kernel) (by decide +kernel) (by decide +kernel) (fun _ _ _ h => h) (Or.inl ⟨by rfl, ?_⟩) (by assumption) ?_
  rotate_left
  · intro w1 hSw; (try dsimp only at hSw); (try simp only [List.getElem_toArray, List.getElem_cons_zero, List.getElem_cons_succ]); go_simp; try with_reducible rfl
  try simp only [List.getElem_toArray, List.getElem_cons_zero, List.getElem_cons_succ, Act.put, List.setIfInBounds_toArray, List.set_cons_zero, List.set_cons_succ]
  refine wpAnyH_take (i := 5) (v := ?_) rfl (by decide +kernel) (by decide +kernel) (by decide +kernel) (fun _ _ _ h => h) (Or.inl ⟨by rfl, ?_⟩) (by assumption) ?_
  rotate_left
  · intro w1 hSw; (try dsimp only at hSw); (try simp only [List.getElem_toArray, List.getElem_cons_zero, List.getElem_cons_succ]); go_simp; try with_reducible rfl
  try simp only [List.getElem_toArray, List.getElem_cons_zero, List.getElem_cons_succ, Act.put, List.setIfInBounds_toArray, List.set_cons_zero, List.set_cons_succ]
  refine wpAnyH_take (i := 6) (v := ?_) rfl (by decide +kernel) (by decide +kernel) (by decide +kernel) (fun _ _ _ h => h) (Or.inl ⟨by rfl, ?_⟩) (by assumption) ?_
  rotate_left
  · intro w1 hSw; (try dsimp only at hSw); (try simp only [List.getElem_toArray, List.getElem_cons_zero, List.getElem_cons_succ]); go_simp; try with_reducible rfl
  try simp only [List.getElem_toArray, List.getElem_cons_zero, List.getElem_cons_succ, Act.put, List.setIfInBounds_toArray, List.set_cons_zero, List.set_cons_succ]
  refine wpAnyH_take (i := 8) (v := ?_) rfl (by decide +kernel) (by decide +kernel) (by decide +kernel) (fun _ _ _ h => h) (Or.inl ⟨by rfl, ?_⟩) (by assumption) ?_
  rotate_left
  · intro w1 hSw; (try dsimp only at hSw); (try simp only [List.getElem_toArray, List.getElem_cons_zero, List.getElem_cons_succ]); go_simp; try with_reducible rfl
  try simp only [List.getElem_toArray, List.getElem_cons_zero, List.getElem_cons_succ, Act.put, List.setIfInBounds_toArray, List.set_cons_zero, List.set_cons_succ]
  refine wpAnyH_ready (rs := [7]) (by decide +kernel) (by simp) ?_
  refine AllReadyH.cons rfl (fun K hK => ?_) AllReadyH.nil
  (try simp only [List.getElem_toArray, List.getElem_cons_zero, List.getElem_cons_succ])
  go_simp
  refine (cn.on _).mono ?_
  rintro e wr ⟨rfl, hbr⟩
  have hb2 := Lib.hid (hb.out.trans (hbr.mono hs))
  clear hb hs
  have hb := hb2
  clear hb2
  have hs := hb.out.size
  have gg := Lib.hid (isN_of hbr gx.out)
  clear gx
  have gx := gg
  clear gg
  have gg := Lib.hid (isN_of hbr ga.out)
  clear ga
  have ga := gg
  clear gg
  have gg := Lib.hid (isN_of hbr gb.out)
  clear gb
  have gb := gg
  clear gg
  clear hH hbr ca0 ca1 ca2 cb0 cb1 cb2
  obtain ⟨ca0, ca1, ca2⟩ := ga.out.all
  obtain ⟨cb0, cb1, cb2⟩ := gb.out.all
  dsimp only at ca0 ca1 ca2 cb0 cb1 cb2
  go_simp
  refine hK.out _ _ (by go_keep) (fun hH => ?_)
  clear hK K
  try simp only [List.getElem_toArray, List.getElem_cons_zero, List.getElem_cons_succ, Act.put, List.setIfInBounds_toArray, List.set_cons_zero, List.set_cons_succ]
  refine wpAnyH_ready (rs := [9]) (by decide +kernel) (by simp) ?_
  refine AllReadyH.cons rfl (fun K hK => ?_) AllReadyH.nil
  (try simp only [List.getElem_toArray, List.getElem_cons_zero, List.getElem_cons_succ])
  go_simp
  refine (cr.on _).mono ?_
  rintro e wr ⟨rfl, hbr⟩
  have hb2 := Lib.hid (hb.out.trans (hbr.mono hs))
  clear hb hs
  have hb := hb2
  clear hb2
  have hs := hb.out.size
  have gg := Lib.hid (isN_of hbr gx.out)
  clear gx
  have gx := gg
  clear gg
  have gg := Lib.hid (isN_of hbr ga.out)
  clear ga
  have ga := gg
  clear gg
  have gg := Lib.hid (isN_of hbr gb.out)
  clear gb
  have gb := gg
  clear gg
  clear hH hbr ca0 ca1 ca2 cb0 cb1 cb2
  obtain ⟨ca0, ca1, ca2⟩ := ga.out.all
  obtain ⟨cb0, cb1, cb2⟩ := gb.out.all
  dsimp only at ca0 ca1 ca2 cb0 cb1 cb2
  go_simp
  refine hK.out _ _ (by go_keep) (fun hH => ?_)
  clear hK K
  try simp only [List.getElem_toArray, List.getElem_cons_zero, List.getElem_cons_succ, Act.put, List.setIfInBounds_toArray, List.set_cons_zero, List.set_cons_succ]
  refine wpAnyH_take (i := 10) (v := ?_) rfl (by decide +kernel) (by decide +kernel) (by decide +kernel) (fun _ _ _ h => h) (Or.inl ⟨by rfl, ?_⟩) (by assumption) ?_
  rotate_left
  · intro w1 hSw; (try dsimp only at hSw); (try simp only [List.getElem_toArray, List.getElem_cons_zero, List.getElem_cons_succ]); go_simp; try with_reducible rfl
  try simp only [List.getElem_toArray, List.getElem_cons_zero, List.getElem_cons_succ, Act.put, List.setIfInBounds_toArray, List.set_cons_zero, List.set_cons_succ]
  refine wpAnyH_take (i := 11) (v := ?_) rfl (by decide +kernel) (by decide +kernel) (by decide +kernel) (fun _ _ _ h => h) (Or.inl ⟨by rfl, ?_⟩) (by assumption) ?_
  rotate_left
  · intro w1 hSw; (try dsimp only at hSw); (try simp only [List.getElem_toArray, List.getElem_cons_zero, List.getElem_cons_succ]); go_simp; try with_reducible rfl
  try simp only [List.getElem_toArray, List.getElem_cons_zero, List.getElem_cons_succ, Act.put, List.setIfInBounds_toArray, List.set_cons_zero, List.set_cons_succ]
  refine wpAnyH_take (i := 12) (v := ?_) rfl (by decide +kernel) (by decide +kernel) (by decide +kernel) (fun _ _ _ h => h) (Or.inl ⟨by rfl, ?_⟩) (by assumption) ?_
  rotate_left
  · intro w1 hSw; (try dsimp only at hSw); (try simp only [List.getElem_toArray, List.getElem_cons_zero, List.getElem_cons_succ]); go_simp; try with_reducible rfl
  try simp only [List.getElem_toArray, List.getElem_cons_zero, List.getElem_cons_succ, Act.put, List.setIfInBounds_toArray, List.set_cons_zero, List.set_cons_succ]
  refine wpAnyH_take (i := 13) (v := ?_) rfl (by decide +kernel) (by decide +kernel) (by decide +kernel) (fun _ _ _ h => h) (Or.inl ⟨by rfl, ?_⟩) (by assumption) ?_
  rotate_left
  · intro w1 hSw; (try dsimp only at hSw); (try simp only [List.getElem_toArray, List.getElem_cons_zero, List.getElem_cons_succ]); go_simp; try with_reducible rfl
  try simp only [List.getElem_toArray, List.getElem_cons_zero, List.getElem_cons_succ, Act.put, List.setIfInBounds_toArray, List.set_cons_zero, List.set_cons_succ]
  refine wpAnyH_take (i := 15) (v := ?_) rfl (by decide +kernel) (by decide +kernel) (by decide +kernel) (fun _ _ _ h => h) (Or.inl ⟨by rfl, ?_⟩) (by assumption) ?_
  rotate_left
  · intro w1 hSw; (try dsimp only at hSw); (try simp only [List.getElem_toArray, List.getElem_cons_zero, List.getElem_cons_succ]); go_simp; try with_reducible rfl
  try simp only [List.getElem_toArray, List.getElem_cons_zero, List.getElem_cons_succ, Act.put, List.setIfInBounds_toArray, List.set_cons_zero, List.set_cons_succ]
  refine wpAnyH_ready (rs := [14]) (by decide +kernel) (by simp) ?_
  refine AllReadyH.cons rfl (fun K hK => ?_) AllReadyH.nil
  (try simp only [List.getElem_toArray, List.getElem_cons_zero, List.getElem_cons_succ])
  go_simp
  refine (cl.on _).mono ?_
  rintro e wr ⟨rfl, hbr⟩
  have hb2 := Lib.hid (hb.out.trans (hbr.mono hs))
  clear hb hs
  have hb := hb2
  clear hb2
  have hs := hb.out.size
  have gg := Lib.hid (isN_of hbr gx.out)
  clear gx
  have gx := gg
  clear gg
  have gg := Lib.hid (isN_of hbr ga.out)
  clear ga
  have ga := gg
  clear gg
  have gg := Lib.hid (isN_of hbr gb.out)
  clear gb
  have gb := gg
  clear gg
  clear hH hbr ca0 ca1 ca2 cb0 cb1 cb2
  obtain ⟨ca0, ca1, ca2⟩ := ga.out.all
  obtain ⟨cb0, cb1, cb2⟩ := gb.out.all
  dsimp only at ca0 ca1 ca2 cb0 cb1 cb2
  go_simp
  refine hK.out _ _ (by go_keep) (fun hH => ?_)
  clear hK K
  try simp only [List.getElem_toArray, List.getElem_cons_zero, List.getElem_cons_succ, Act.put, List.setIfInBounds_toArray, List.set_cons_zero, List.set_cons_succ]
  refine wpAnyH_take (i := 16) (v := ?_) rfl (by decide +kernel) (by decide +kernel) (by decide +kernel) (fun _ _ _ h => h) (Or.inl ⟨by rfl, ?_⟩) (by assumption) ?_
  rotate_left
  · intro w1 hSw; (try dsimp only at hSw); (try simp only [List.getElem_toArray, List.getElem_cons_zero, List.getElem_cons_succ]); go_simp; try with_reducible rfl
  try simp only [List.getElem_toArray, List.getElem_cons_zero, List.getElem_cons_succ, Act.put, List.setIfInBounds_toArray, List.set_cons_zero, List.set_cons_succ]
  refine wpAnyH_take (i := 17) (v := ?_) rfl (by decide +kernel) (by decide +kernel) (by decide +kernel) (fun _ _ _ h => h) (Or.inl ⟨by rfl, ?_⟩) (by assumption) ?_
  rotate_left
  · intro w1 hSw; (try dsimp only at hSw); (try simp only [List.getElem_toArray, List.getElem_cons_zero, List.getElem_cons_succ]); go_simp; try with_reducible rfl
  try simp only [List.getElem_toArray, List.getElem_cons_zero, List.getElem_cons_succ, Act.put, List.setIfInBounds_toArray, List.set_cons_zero, List.set_cons_succ]
  refine wpAnyH_take (i := 18) (v := ?_) rfl (by decide +kernel) (by decide +kernel) (by decide +kernel) (fun _ _ _ h => h) (Or.inl ⟨by rfl, ?_⟩) (by assumption) ?_
  rotate_left
  · intro w1 hSw; (try dsimp only at hSw); (try simp only [List.getElem_toArray, List.getElem_cons_zero, List.getElem_cons_succ]); go_simp; try with_reducible rfl
  try simp only [List.getElem_toArray, List.getElem_cons_zero, List.getElem_cons_succ, Act.put, List.setIfInBounds_toArray, List.set_cons_zero, List.set_cons_succ]
  refine wpAnyH_take (i := 19) (v := ?_) rfl (by decide +kernel) (by decide +kernel) (by decide +kernel) (fun _ _ _ h => h) (Or.inl ⟨by rfl, ?_⟩) (by assumption) ?_
  rotate_left
  · intro w1 hSw; (try dsimp only at hSw); (try simp only [List.getElem_toArray, List.getElem_cons_zero, List.getElem_cons_succ]); go_simp; try with_reducible rfl
  try simp only [List.getElem_toArray, List.getElem_cons_zero, List.getElem_cons_succ, Act.put, List.setIfInBounds_toArray, List.set_cons_zero, List.set_cons_succ]
  refine wpAnyH_take (i := 21) (v := ?_) rfl (by decide +kernel) (by decide +kernel) (by decide +kernel) (fun _ _ _ h => h) (Or.inl ⟨by rfl, ?_⟩) (by assumption) ?_
  rotate_left
  · intro w1 hSw; (try dsimp only at hSw); (try simp only [List.getElem_toArray, List.getElem_cons_zero, List.getElem_cons_succ]); go_simp; try with_reducible rfl
  try simp only [List.getElem_toArray, List.getElem_cons_zero, List.getElem_cons_succ, Act.put, List.setIfInBounds_toArray, List.set_cons_zero, List.set_cons_succ]
  refine wpAnyH_ready (rs := [20]) (by decide +kernel) (by simp) ?_
  refine AllReadyH.cons rfl (fun K hK => ?_) AllReadyH.nil
  (try simp only [List.getElem_toArray, List.getElem_cons_zero, List.getElem_cons_succ])
  go_simp
  refine (cg.on _).mono ?_
  rintro e wr ⟨rfl, hbr⟩
  have hb2 := Lib.hid (hb.out.trans (hbr.mono hs))
  clear hb hs
  have hb := hb2
  clear hb2
  have hs := hb.out.size
  have gg := Lib.hid (isN_of hbr gx.out)
  clear gx
  have gx := gg
  clear gg
  have gg := Lib.hid (isN_of hbr ga.out)
  clear ga
  have ga := gg
  clear gg
  have gg := Lib.hid (isN_of hbr gb.out)
  clear gb
  have gb := gg
  clear gg
  clear hH hbr ca0 ca1 ca2 cb0 cb1 cb2
  obtain ⟨ca0, ca1, ca2⟩ := ga.out.all
  obtain ⟨cb0, cb1, cb2⟩ := gb.out.all
  dsimp only at ca0 ca1 ca2 cb0 cb1 cb2
  go_simp
  refine hK.out _ _ (by go_keep) (fun hH => ?_)
  clear hK K
  try simp only [List.getElem_toArray, List.getElem_cons_zero, List.getElem_cons_succ, Act.put, List.setIfInBounds_toArray, List.set_cons_zero, List.set_cons_succ]
  refine wpAnyH_take (i := 22) (v := ?_) rfl (by decide +kernel) (by decide +kernel) (by decide +kernel) (fun _ _ _ h => h) (Or.inl ⟨by rfl, ?_⟩) (by assumption) ?_
  rotate_left
  · intro w1 hSw; (try dsimp only at hSw); (try simp only [List.getElem_toArray, List.getElem_cons_zero, List.getElem_cons_succ]); go_simp; try with_reducible rfl
  try simp only [List.getElem_toArray, List.getElem_cons_zero, List.getElem_cons_succ, Act.put, List.setIfInBounds_toArray, List.set_cons_zero, List.set_cons_succ]
  refine wpAnyH_take (i := 23) (v := ?_) rfl (by decide +kernel) (by decide +kernel) (by decide +kernel) (fun _ _ _ h => h) (Or.inl ⟨by rfl, ?_⟩) (by assumption) ?_
  rotate_left
  · intro w1 hSw; (try dsimp only at hSw); (try simp only [List.getElem_toArray, List.getElem_cons_zero, List.getElem_cons_succ]); go_simp; try with_reducible rfl
  try simp only [List.getElem_toArray, List.getElem_cons_zero, List.getElem_cons_succ, Act.put, List.setIfInBounds_toArray, List.set_cons_zero, List.set_cons_succ]
  refine wpAnyH_done (by decide +kernel) ?_ _
  clear hH
  clear ca0 ca1 ca2 cb0 cb1 cb2
  obtain ⟨cx0, cx1, cx2⟩ := gx.out.all
  dsimp only at cx0 cx1 cx2
  go_wp2_with fail
  refine (rf.on _).mono ?_
  rintro e w21 ⟨rfl, hb21⟩
  replace gx := Lib.hid (isN_of hb21 gx.out)
  replace ga := Lib.hid (isN_of hb21 ga.out)
  replace gb := Lib.hid (isN_of hb21 gb.out)
  replace hb := Lib.hid (hb.out.trans (hb21.mono hs))
  clear hs hb21
  have hs := hb.out.size
  clear cx0 cx1 cx2
  obtain ⟨cx0, cx1, cx2⟩ := gx.out.all
  dsimp only at cx0 cx1 cx2
  go_wp2_with fail
  refine (pu.on _).mono ?_
  rintro e w22 ⟨rfl, hb22⟩
  replace gx := Lib.hid (isN_of hb22 gx.out)
  replace ga := Lib.hid (isN_of hb22 ga.out)
  replace gb := Lib.hid (isN_of hb22 gb.out)
  replace hb := Lib.hid (hb.out.trans (hb22.mono hs))
  clear hs hb22
  have hs := hb.out.size
  clear cx0 cx1 cx2
  obtain ⟨cx0, cx1, cx2⟩ := gx.out.all
  dsimp only at cx0 cx1 cx2
  go_wp2_with fail
  refine (ft.on _).mono ?_
  rintro e w23 ⟨rfl, hb23⟩
  replace gx := Lib.hid (isN_of hb23 gx.out)
  replace ga := Lib.hid (isN_of hb23 ga.out)
  replace gb := Lib.hid (isN_of hb23 gb.out)
  replace hb := Lib.hid (hb.out.trans (hb23.mono hs))
  clear hs hb23
  have hs := hb.out.size
  have kx := gx.out.lt
  have ka := ga.out.lt
  have kb := gb.out.lt
  have hle := hs
  clear cx0 cx1 cx2
  replace gx := Lib.hid (gx.out.alloc (oN ⟨false, 0, 0⟩))
  replace ga := Lib.hid (ga.out.alloc (oN ⟨false, 0, 0⟩))
  replace gb := Lib.hid (gb.out.alloc (oN ⟨false, 0, 0⟩))
  have gv := Lib.hid (IsN.new w23 ⟨false, 0, 0⟩)
  replace hb := Lib.hid (hb.out.alloc hs (oN ⟨false, 0, 0⟩))
  clear hs
  have hs := hb.out.size
  go_wp2_with fail
  refine (cb.on _).mono ?_
  rintro e w24 ⟨rfl, hb24⟩
  replace gx := Lib.hid (isN_of hb24 gx.out)
  replace ga := Lib.hid (isN_of hb24 ga.out)
  replace gb := Lib.hid (isN_of hb24 gb.out)
  replace gv := Lib.hid (isN_of hb24 gv.out)
  replace hb := Lib.hid (hb.out.trans (hb24.mono hs))
  clear hs hb24
  have hs := hb.out.size
  replace hsz := hsz.out
  obtain ⟨cx0, cx1, cx2⟩ := gx.out.all
  dsimp only at cx0 cx1 cx2
  go_wp2_with fail
  refine (gd.on _).mono ?_
  rintro e w25 ⟨rfl, hb25⟩
  replace gx := Lib.hid (isN_of hb25 gx.out)
  replace ga := Lib.hid (isN_of hb25 ga.out)
  replace gb := Lib.hid (isN_of hb25 gb.out)
  replace gv := Lib.hid (isN_of hb25 gv.out)
  replace hb := Lib.hid (hb.out.trans (hb25.mono hs))
  clear hs hb25
  have hs := hb.out.size
  clear cx0 cx1 cx2
  obtain ⟨cx0, cx1, cx2⟩ := gx.out.all
  obtain ⟨cv0, cv1, cv2⟩ := gv.out.all
  dsimp only at cx0 cx1 cx2 cv0 cv1 cv2
  have vf := gv.out.f
  go_upto_region 13 with fail
  clear vf
  clear cx0 cx1 cx2 cv0 cv1 cv2
  replace gx := Lib.hid (gx.out.set3_other (c := w23.heap.size) (v0 := .bool xn) (v1 := .int .u64 xh) (v2 := .int .u64 xl) (by omega))
  replace ga := Lib.hid (ga.out.set3_other (c := w23.heap.size) (v0 := .bool xn) (v1 := .int .u64 xh) (v2 := .int .u64 xl) (by omega))
  replace gb := Lib.hid (gb.out.set3_other (c := w23.heap.size) (v0 := .bool xn) (v1 := .int .u64 xh) (v2 := .int .u64 xl) (by omega))
  replace gv := Lib.hid (gv.out.set xn xh xl)
  replace hb := Lib.hid (below_set3 hb.out (b := w23.heap.size) (by omega) (.bool xn) (.int .u64 xh) (.int .u64 xl))
  clear hs
  have hs := hb.out.size
  obtain ⟨cx0, cx1, cx2⟩ := gx.out.all
  obtain ⟨ca0, ca1, ca2⟩ := ga.out.all
  dsimp only at cx0 cx1 cx2 ca0 ca1 ca2
  replace d1 := d1.out
  go_wp2_with fail
  refine (c1.on _).mono ?_
  rintro e w26 ⟨rfl, hb26⟩
  replace gx := Lib.hid (isN_of hb26 gx.out)
  replace ga := Lib.hid (isN_of hb26 ga.out)
  replace gb := Lib.hid (isN_of hb26 gb.out)
  replace gv := Lib.hid (isN_of hb26 gv.out)
  replace hb := Lib.hid (hb.out.trans (hb26.mono hs))
  clear hs hb26
  have hs := hb.out.size
  clear cx0 cx1 cx2 ca0 ca1 ca2
  obtain ⟨cx0, cx1, cx2⟩ := gx.out.all
  obtain ⟨cb0, cb1, cb2⟩ := gb.out.all
  dsimp only at cx0 cx1 cx2 cb0 cb1 cb2
  replace d2 := d2.out
  go_wp2_with fail
  refine (c2.on _).mono ?_
  rintro e w27 ⟨rfl, hb27⟩
  replace gx := Lib.hid (isN_of hb27 gx.out)
  replace ga := Lib.hid (isN_of hb27 ga.out)
  replace gb := Lib.hid (isN_of hb27 gb.out)
  replace gv := Lib.hid (isN_of hb27 gv.out)
  replace hb := Lib.hid (hb.out.trans (hb27.mono hs))
  clear hs hb27
  have hs := hb.out.size
  clear cx0 cx1 cx2 cb0 cb1 cb2
  obtain ⟨cb0, cb1, cb2⟩ := gb.out.all
  obtain ⟨cv0, cv1, cv2⟩ := gv.out.all
  dsimp only at cb0 cb1 cb2 cv0 cv1 cv2
  have vf := gv.out.f
  go_upto_region 17 with fail
  clear vf
  clear cb0 cb1 cb2 cv0 cv1 cv2
  replace gx := Lib.hid (gx.out.set3_other (c := w23.heap.size) (v0 := .bool Bn) (v1 := .int .u64 Bh) (v2 := .int .u64 Bl) (by omega))
  replace ga := Lib.hid (ga.out.set3_other (c := w23.heap.size) (v0 := .bool Bn) (v1 := .int .u64 Bh) (v2 := .int .u64 Bl) (by omega))
  replace gb := Lib.hid (gb.out.set3_other (c := w23.heap.size) (v0 := .bool Bn) (v1 := .int .u64 Bh) (v2 := .int .u64 Bl) (by omega))
  replace gv := Lib.hid (gv.out.set Bn Bh Bl)
  replace hb := Lib.hid (below_set3 hb.out (b := w23.heap.size) (by omega) (.bool Bn) (.int .u64 Bh) (.int .u64 Bl))
  clear hs
  have hs := hb.out.size
  replace hb := Lib.hid (below_drewed hb.out)
  clear hs
  have hs := hb.out.size
  obtain ⟨cx0, cx1, cx2⟩ := gx.out.all
  obtain ⟨cv0, cv1, cv2⟩ := gv.out.all
  dsimp only at cx0 cx1 cx2 cv0 cv1 cv2
  go_wp2_with fail
  refine wp_region_held_at (S := fun w1 => w1.cell? ⟨w.heap.size, 0, none⟩ = some (.bool xn) ∧ w1.cell? ⟨w.heap.size, 1, none⟩ = some (.int .u64 xh) ∧ w1.cell? ⟨w.heap.size, 2, none⟩ = some (.int .u64 xl) ∧ w1.cell? ⟨w23.heap.size, 0, none⟩ = some (.bool Bn) ∧ w1.cell? ⟨w23.heap.size, 1, none⟩ = some (.int .u64 Bh) ∧ w1.cell? ⟨w23.heap.size, 2, none⟩ = some (.int .u64 Bl)) 5 rfl (by kernel_rfl) (by go_keep) (fun hH => ?_)
  refine wpAnyH_take (i := 0) (v := ?_) rfl (by decide +kernel) (by decide +kernel) (by decide +kernel) (fun _ _ _ h => h) (Or.inl ⟨by rfl, ?_⟩) (by assumption) ?_
  rotate_left
  · intro w1 hSw; (try dsimp only at hSw); (try simp only [List.getElem_toArray, List.getElem_cons_zero]); go_simp; try with_reducible rfl
  try simp only [List.getElem_toArray, List.getElem_cons_zero, Act.put, List.setIfInBounds_toArray, List.set_cons_zero, List.set_cons_succ]
  refine wpAnyH_take (i := 1) (v := ?_) rfl (by decide +kernel) (by decide +kernel) (by decide +kernel) (fun _ _ _ h => h) (Or.inl ⟨by rfl, ?_⟩) (by assumption) ?_
  rotate_left
  · intro w1 hSw; (try dsimp only at hSw); (try simp only [List.getElem_toArray, List.getElem_cons_zero, List.getElem_cons_succ]); go_simp; try with_reducible rfl
  try simp only [List.getElem_toArray, List.getElem_cons_zero, List.getElem_cons_succ, Act.put, List.setIfInBounds_toArray, List.set_cons_zero, List.set_cons_succ]
  refine wpAnyH_take (i := 3) (v := ?_) rfl (by decide +kernel) (by decide +kernel) (by decide +kernel) (fun _ _ _ h => h) (Or.inl ⟨by rfl, ?_⟩) (by assumption) ?_
  rotate_left
  · intro w1 hSw; (try dsimp only at hSw); (try simp only [List.getElem_toArray, List.getElem_cons_zero, List.getElem_cons_succ]); go_simp; try with_reducible rfl
  try simp only [List.getElem_toArray, List.getElem_cons_zero, List.getElem_cons_succ, Act.put, List.setIfInBounds_toArray, List.set_cons_zero, List.set_cons_succ]
  refine wpAnyH_ready (rs := [2]) (by decide +kernel) (by simp) ?_
  refine AllReadyH.cons rfl (fun K hK => ?_) AllReadyH.nil
  (try simp only [List.getElem_toArray, List.getElem_cons_zero, List.getElem_cons_succ])
  go_simp
  refine (ck.on _).mono ?_
  rintro e wr ⟨rfl, hbr⟩
  have hb2 := Lib.hid (hb.out.trans (hbr.mono hs))
  clear hb hs
  have hb := hb2
  clear hb2
  have hs := hb.out.size
  have gg := Lib.hid (isN_of hbr gx.out)
  clear gx
  have gx := gg
  clear gg
  have gg := Lib.hid (isN_of hbr ga.out)
  clear ga
  have ga := gg
  clear gg
  have gg := Lib.hid (isN_of hbr gb.out)
  clear gb
  have gb := gg
  clear gg
  have gg := Lib.hid (isN_of hbr gv.out)
  clear gv
  have gv := gg
  clear gg
  clear hH hbr cx0 cx1 cx2 cv0 cv1 cv2
  obtain ⟨cx0, cx1, cx2⟩ := gx.out.all
  obtain ⟨cv0, cv1, cv2⟩ := gv.out.all
  dsimp only at cx0 cx1 cx2 cv0 cv1 cv2
  go_simp
  refine hK.out _ _ (by go_keep) (fun hH => ?_)
  clear hK K
  try simp only [List.getElem_toArray, List.getElem_cons_zero, List.getElem_cons_succ, Act.put, List.setIfInBounds_toArray, List.set_cons_zero, List.set_cons_succ]
  refine wpAnyH_take (i := 4) (v := ?_) rfl (by decide +kernel) (by decide +kernel) (by decide +kernel) (fun _ _ _ h => h) (Or.inl ⟨by rfl, ?_⟩) (by assumption) ?_
  rotate_left
  · intro w1 hSw; (try dsimp only at hSw); (try simp only [List.getElem_toArray, List.getElem_cons_zero, List.getElem_cons_succ]); go_simp; try with_reducible rfl
  try simp only [List.getElem_toArray, List.getElem_cons_zero, List.getElem_cons_succ, Act.put, List.setIfInBounds_toArray, List.set_cons_zero, List.set_cons_succ]
  refine wpAnyH_done (by decide +kernel) ?_ _
  clear hH
  clear cx0 cx1 cx2 cv0 cv1 cv2
  replace hsz0 := hsz0.out
  go_wp2_with fail
  refine (cb.on _).mono ?_
  rintro e w41 ⟨rfl, hb41⟩
  replace gx := Lib.hid (isN_of hb41 gx.out)
  replace ga := Lib.hid (isN_of hb41 ga.out)
  replace gb := Lib.hid (isN_of hb41 gb.out)
  replace gv := Lib.hid (isN_of hb41 gv.out)
  replace hb := Lib.hid (hb.out.trans (hb41.mono hs))
  clear hs hb41
  have hs := hb.out.size
  go_wp2_with fail
  go_ret
  exact ⟨rfl, hb.out⟩

set_option maxRecDepth 100000 in
set_option maxHeartbeats 8000000 in
theorem fieldExact_M (k : Int) (x A B : WI) (sz : Int) (nm S : ByteArray) (bd : Ret 14 #[.int .i64 k] (.tuple #[wv A, wv B])) (cs : Ret 15 #[.int .i64 k] (.int .i64 sz)) (cb : Ret 11 #[.int .i64 k] (.int .i64 sz))
    (cn : Ret 16 #[.int .i64 k] (.string nm)) (cr : Ret 12 #[.int .i64 k] (.string nm)) (cl : Ret 17 #[.int .i64 k] (wv A)) (cg : Ret 18 #[.int .i64 k] (wv B))
    (rf : Ret 19 #[.int .i64 k, wv x] (.bool true)) (pu : Ret 20 #[.int .i64 k, wv x] (.tuple #[.string S, .int .i64 0])) (ft : Ret 21 #[.int .i64 k, wv x] (.bool true)) (ck : Ret 25 #[.int .i64 k, wv x] (wv x)) (hsz : decide (0 < sz) = true) (hsz0 : (sz == 0) = false) (gd : Ret 23 #[wv x] (.bool true)) (u1 u2 : Int) (c1 : Ret 24 #[wv x, wv A] (.int .i64 u1)) (c2 : Ret 24 #[wv x, wv B] (.int .i64 u2)) (d1 : decide (u1 < 0) = false) (d2 : decide (0 < u2) = false) (rp : Ret 22 #[.int .i64 k, wv x] (.string S)) (w : World) :
    Calls Try.prog 4 #[.int .i64 k, wv x] w fun e w' => e = .returned (.bool true) ∧ Below w.heap.size w w' := by
  obtain ⟨xn, xh, xl⟩ := x
  obtain ⟨An, Ah, Al⟩ := A
  obtain ⟨Bn, Bh, Bl⟩ := B
  unfold wv at *
  dsimp only at *
  replace hsz := Lib.hid hsz
  replace hsz0 := Lib.hid hsz0
  replace d1 := Lib.hid d1
  replace d2 := Lib.hid d2
  go_enter Try.func4, Try.ntmps4
  go_wp2_with fail
  refine (awake_c.on _).mono ?_
  rintro e w1 ⟨rfl, hb1⟩
  obtain ⟨gx, hb⟩ := one_new (x := ⟨xn, xh, xl⟩) hb1
  have hs := hb.size
  clear hb1
  replace gx := Lib.hid gx
  replace hb := Lib.hid hb
  go_wp2_with fail
  refine (bd.on _).mono ?_
  rintro e w2 ⟨rfl, hb2⟩
  replace gx := Lib.hid (isN_of hb2 gx.out)
  replace hb := Lib.hid (hb.out.trans (hb2.mono hs))
  clear hs hb2
  have hs := hb.out.size
  have l1 := gx.out.lt
  replace gx := Lib.hid ((gx.out.alloc (oN ⟨An, Ah, Al⟩)).alloc (oN ⟨Bn, Bh, Bl⟩))
  have ga := Lib.hid ((IsN.new w2 ⟨An, Ah, Al⟩).alloc (oN ⟨Bn, Bh, Bl⟩))
  have gb := Lib.hid (show IsN ((w2.alloc (oN ⟨An, Ah, Al⟩)).alloc (oN ⟨Bn, Bh, Bl⟩)) (w2.heap.size + 1) ⟨Bn, Bh, Bl⟩ from by have h := IsN.new (w2.alloc (oN ⟨An, Ah, Al⟩)) ⟨Bn, Bh, Bl⟩; rwa [size_alloc] at h)
  replace hb := Lib.hid ((hb.out.alloc hs (oN ⟨An, Ah, Al⟩)).alloc (by rw [size_alloc]; omega) (oN ⟨Bn, Bh, Bl⟩))
  clear hs
  have hs := hb.out.size
  replace hb := Lib.hid (below_drewed hb.out)
  clear hs
  have hs := hb.out.size
  obtain ⟨ca0, ca1, ca2⟩ := ga.out.all
  obtain ⟨cb0, cb1, cb2⟩ := gb.out.all
  dsimp only at ca0 ca1 ca2 cb0 cb1 cb2
  go_wp2_with fail
  refine wp_region_held_at (S := fun w1 => w1.cell? ⟨w2.heap.size, 0, none⟩ = some (.bool An) ∧ w1.cell? ⟨w2.heap.size, 1, none⟩ = some (.int .u64 Ah) ∧ w1.cell? ⟨w2.heap.size, 2, none⟩ = some (.int .u64 Al) ∧ w1.cell? ⟨w2.heap.size + 1, 0, none⟩ = some (.bool Bn) ∧ w1.cell? ⟨w2.heap.size + 1, 1, none⟩ = some (.int .u64 Bh) ∧ w1.cell? ⟨w2.heap.size + 1, 2, none⟩ = some (.int .u64 Bl)) 24 rfl (by kernel_rfl) (by go_keep) (fun hH => ?_)
  refine wpAnyH_take (i := 0) (v := ?_) rfl (by decide +kernel) (by decide +kernel) (by decide +kernel) (fun _ _ _ h => h) (Or.inl ⟨by rfl, ?_⟩) (by assumption) ?_
  rotate_left
  · intro w1 hSw; (try dsimp only at hSw); (try simp only [List.getElem_toArray, List.getElem_cons_zero]); go_simp; try with_reducible rfl
  try simp only [List.getElem_toArray, List.getElem_cons_zero, Act.put, List.setIfInBounds_toArray, List.set_cons_zero, List.set_cons_succ]
  refine wpAnyH_take (i := 2) (v := ?_) rfl (by decide +kernel) (by decide +kernel) (by decide +kernel) (fun _ _ _ h => h) (Or.inl ⟨by rfl, ?_⟩) (by assumption) ?_
  rotate_left
  · intro w1 hSw; (try dsimp only at hSw); (try simp only [List.getElem_toArray, List.getElem_cons_zero, List.getElem_cons_succ]); go_simp; try with_reducible rfl
  try simp only [List.getElem_toArray, List.getElem_cons_zero, List.getElem_cons_succ, Act.put, List.setIfInBounds_toArray, List.set_cons_zero, List.set_cons_succ]
  refine wpAnyH_ready (rs := [1]) (by decide +kernel) (by simp) ?_
  refine AllReadyH.cons rfl (fun K hK => ?_) AllReadyH.nil
  (try simp only [List.getElem_toArray, List.getElem_cons_zero, List.getElem_cons_succ])
  go_simp
  refine (cs.on _).mono ?_
  rintro e wr ⟨rfl, hbr⟩
  have hb2 := Lib.hid (hb.out.trans (hbr.mono hs))
  clear hb hs
  have hb := hb2
  clear hb2
  have hs := hb.out.size
  have gg := Lib.hid (isN_of hbr gx.out)
  clear gx
  have gx := gg
  clear gg
  have gg := Lib.hid (isN_of hbr ga.out)
  clear ga
  have ga := gg
  clear gg
  have gg := Lib.hid (isN_of hbr gb.out)
  clear gb
  have gb := gg
  clear gg
  clear hH hbr ca0 ca1 ca2 cb0 cb1 cb2
  obtain ⟨ca0, ca1, ca2⟩ := ga.out.all
  obtain ⟨cb0, cb1, cb2⟩ := gb.out.all
  dsimp only at ca0 ca1 ca2 cb0 cb1 cb2
  go_simp
  refine hK.out _ _ (by go_keep) (fun hH => ?_)
  clear hK K
  try simp only [List.getElem_toArray, List.getElem_cons_zero, List.getElem_cons_succ, Act.put, List.setIfInBounds_toArray, List.set_cons_zero, List.set_cons_succ]
  refine wpAnyH_ready (rs := [3]) (by decide +kernel) (by simp) ?_
  refine AllReadyH.cons rfl (fun K hK => ?_) AllReadyH.nil
  (try simp only [List.getElem_toArray, List.getElem_cons_zero, List.getElem_cons_succ])
  go_simp
  refine (cb.on _).mono ?_
  rintro e wr ⟨rfl, hbr⟩
  have hb2 := Lib.hid (hb.out.trans (hbr.mono hs))
  clear hb hs
  have hb := hb2
  clear hb2
  have hs := hb.out.size
  have gg := Lib.hid (isN_of hbr gx.out)
  clear gx
  have gx := gg
  clear gg
  have gg := Lib.hid (isN_of hbr ga.out)
  clear ga
  have ga := gg
  clear gg
  have gg := Lib.hid (isN_of hbr gb.out)
  clear gb
  have gb := gg
  clear gg
  clear hH hbr ca0 ca1 ca2 cb0 cb1 cb2
  obtain ⟨ca0, ca1, ca2⟩ := ga.out.all
  obtain ⟨cb0, cb1, cb2⟩ := gb.out.all
  dsimp only at ca0 ca1 ca2 cb0 cb1 cb2
  go_simp
  refine hK.out _ _ (by go_keep) (fun hH => ?_)
  clear hK K
  try simp only [List.getElem_toArray, List.getElem_cons_zero, List.getElem_cons_succ, Act.put, List.setIfInBounds_toArray, List.set_cons_zero, List.set_cons_succ]
  refine wpAnyH_take (i := 4) (v := ?_) rfl (by decide +kernel) (by decide +kernel) (by decide +kernel) (fun _ _ _ h => h) (Or.inl ⟨by rfl, ?_⟩) (by assumption) ?_
  rotate_left
  · intro w1 hSw; (try dsimp only at hSw); (try simp only [List.getElem_toArray, List.getElem_cons_zero, List.getElem_cons_succ]); go_simp; try with_reducible rfl
  try simp only [List.getElem_toArray, List.getElem_cons_zero, List.getElem_cons_succ, Act.put, List.setIfInBounds_toArray, List.set_cons_zero, List.set_cons_succ]
  refine wpAnyH_take (i := 5) (v := ?_) rfl (by decide +kernel) (by decide +kernel) (by decide +kernel) (fun _ _ _ h => h) (Or.inl ⟨by rfl, ?_⟩) (by assumption) ?_
  rotate_left
  · intro w1 hSw; (try dsimp only at hSw); (try simp only [List.getElem_toArray, List.getElem_cons_zero, List.getElem_cons_succ]); go_simp; try with_reducible rfl
  try simp only [List.getElem_toArray, List.getElem_cons_zero, List.getElem_cons_succ, Act.put, List.setIfInBounds_toArray, List.set_cons_zero, List.set_cons_succ]
  refine wpAnyH_take (i := 6) (v := ?_) rfl (by decide +kernel) (by decide +kernel) (by decide +kernel) (fun _ _ _ h => h) (Or.inl ⟨by rfl, ?_⟩) (by assumption) ?_
  rotate_left
  · intro w1 hSw; (try dsimp only at hSw); (try simp only [List.getElem_toArray, List.getElem_cons_zero, List.getElem_cons_succ]); go_simp; try with_reducible rfl
  try simp only [List.getElem_toArray, List.getElem_cons_zero, List.getElem_cons_succ, Act.put, List.setIfInBounds_toArray, List.set_cons_zero, List.set_cons_succ]
  refine wpAnyH_take (i := 8) (v := ?_) rfl (by decide +kernel) (by decide +kernel) (by decide +kernel) (fun _ _ _ h => h) (Or.inl ⟨by rfl, ?_⟩) (by assumption) ?_
  rotate_left
  · intro w1 hSw; (try dsimp only at hSw); (try simp only [List.getElem_toArray, List.getElem_cons_zero, List.getElem_cons_succ]); go_simp; try with_reducible rfl
  try simp only [List.getElem_toArray, List.getElem_cons_zero, List.getElem_cons_succ, Act.put, List.setIfInBounds_toArray, List.set_cons_zero, List.set_cons_succ]
  refine wpAnyH_ready (rs := [7]) (by decide +kernel) (by simp) ?_
  refine AllReadyH.cons rfl (fun K hK => ?_) AllReadyH.nil
  (try simp only [List.getElem_toArray, List.getElem_cons_zero, List.getElem_cons_succ])
  go_simp
  refine (cn.on _).mono ?_
  rintro e wr ⟨rfl, hbr⟩
  have hb2 := Lib.hid (hb.out.trans (hbr.mono hs))
  clear hb hs
  have hb := hb2
  clear hb2
  have hs := hb.out.size
  have gg := Lib.hid (isN_of hbr gx.out)
  clear gx
  have gx := gg
  clear gg
  have gg := Lib.hid (isN_of hbr ga.out)
  clear ga
  have ga := gg
  clear gg
  have gg := Lib.hid (isN_of hbr gb.out)
  clear gb
  have gb := gg
  clear gg
  clear hH hbr ca0 ca1 ca2 cb0 cb1 cb2
  obtain ⟨ca0, ca1, ca2⟩ := ga.out.all
  obtain ⟨cb0, cb1, cb2⟩ := gb.out.all
  dsimp only at ca0 ca1 ca2 cb0 cb1 cb2
  go_simp
  refine hK.out _ _ (by go_keep) (fun hH => ?_)
  clear hK K
  try simp only [List.getElem_toArray, List.getElem_cons_zero, List.getElem_cons_succ, Act.put, List.setIfInBounds_toArray, List.set_cons_zero, List.set_cons_succ]
  refine wpAnyH_ready (rs := [9]) (by decide +kernel) (by simp) ?_
  refine AllReadyH.cons rfl (fun K hK => ?_) AllReadyH.nil
  (try simp only [List.getElem_toArray, List.getElem_cons_zero, List.getElem_cons_succ])
  go_simp
  refine (cr.on _).mono ?_
  rintro e wr ⟨rfl, hbr⟩
  have hb2 := Lib.hid (hb.out.trans (hbr.mono hs))
  clear hb hs
  have hb := hb2
  clear hb2
  have hs := hb.out.size
  have gg := Lib.hid (isN_of hbr gx.out)
  clear gx
  have gx := gg
  clear gg
  have gg := Lib.hid (isN_of hbr ga.out)
  clear ga
  have ga := gg
  clear gg
  have gg := Lib.hid (isN_of hbr gb.out)
  clear gb
  have gb := gg
  clear gg
  clear hH hbr ca0 ca1 ca2 cb0 cb1 cb2
  obtain ⟨ca0, ca1, ca2⟩ := ga.out.all
  obtain ⟨cb0, cb1, cb2⟩ := gb.out.all
  dsimp only at ca0 ca1 ca2 cb0 cb1 cb2
  go_simp
  refine hK.out _ _ (by go_keep) (fun hH => ?_)
  clear hK K
  try simp only [List.getElem_toArray, List.getElem_cons_zero, List.getElem_cons_succ, Act.put, List.setIfInBounds_toArray, List.set_cons_zero, List.set_cons_succ]
  refine wpAnyH_take (i := 10) (v := ?_) rfl (by decide +kernel) (by decide +kernel) (by decide +kernel) (fun _ _ _ h => h) (Or.inl ⟨by rfl, ?_⟩) (by assumption) ?_
  rotate_left
  · intro w1 hSw; (try dsimp only at hSw); (try simp only [List.getElem_toArray, List.getElem_cons_zero, List.getElem_cons_succ]); go_simp; try with_reducible rfl
  try simp only [List.getElem_toArray, List.getElem_cons_zero, List.getElem_cons_succ, Act.put, List.setIfInBounds_toArray, List.set_cons_zero, List.set_cons_succ]
  refine wpAnyH_take (i := 11) (v := ?_) rfl (by decide +kernel) (by decide +kernel) (by decide +kernel) (fun _ _ _ h => h) (Or.inl ⟨by rfl, ?_⟩) (by assumption) ?_
  rotate_left
  · intro w1 hSw; (try dsimp only at hSw); (try simp only [List.getElem_toArray, List.getElem_cons_zero, List.getElem_cons_succ]); go_simp; try with_reducible rfl
  try simp only [List.getElem_toArray, List.getElem_cons_zero, List.getElem_cons_succ, Act.put, List.setIfInBounds_toArray, List.set_cons_zero, List.set_cons_succ]
  refine wpAnyH_take (i := 12) (v := ?_) rfl (by decide +kernel) (by decide +kernel) (by decide +kernel) (fun _ _ _ h => h) (Or.inl ⟨by rfl, ?_⟩) (by assumption) ?_
  rotate_left
  · intro w1 hSw; (try dsimp only at hSw); (try simp only [List.getElem_toArray, List.getElem_cons_zero, List.getElem_cons_succ]); go_simp; try with_reducible rfl
  try simp only [List.getElem_toArray, List.getElem_cons_zero, List.getElem_cons_succ, Act.put, List.setIfInBounds_toArray, List.set_cons_zero, List.set_cons_succ]
  refine wpAnyH_take (i := 13) (v := ?_) rfl (by decide +kernel) (by decide +kernel) (by decide +kernel) (fun _ _ _ h => h) (Or.inl ⟨by rfl, ?_⟩) (by assumption) ?_
  rotate_left
  · intro w1 hSw; (try dsimp only at hSw); (try simp only [List.getElem_toArray, List.getElem_cons_zero, List.getElem_cons_succ]); go_simp; try with_reducible rfl
  try simp only [List.getElem_toArray, List.getElem_cons_zero, List.getElem_cons_succ, Act.put, List.setIfInBounds_toArray, List.set_cons_zero, List.set_cons_succ]
  refine wpAnyH_take (i := 15) (v := ?_) rfl (by decide +kernel) (by decide +kernel) (by decide +kernel) (fun _ _ _ h => h) (Or.inl ⟨by rfl, ?_⟩) (by assumption) ?_
  rotate_left
  · intro w1 hSw; (try dsimp only at hSw); (try simp only [List.getElem_toArray, List.getElem_cons_zero, List.getElem_cons_succ]); go_simp; try with_reducible rfl
  try simp only [List.getElem_toArray, List.getElem_cons_zero, List.getElem_cons_succ, Act.put, List.setIfInBounds_toArray, List.set_cons_zero, List.set_cons_succ]
  refine wpAnyH_ready (rs := [14]) (by decide +kernel) (by simp) ?_
  refine AllReadyH.cons rfl (fun K hK => ?_) AllReadyH.nil
  (try simp only [List.getElem_toArray, List.getElem_cons_zero, List.getElem_cons_succ])
  go_simp
  refine (cl.on _).mono ?_
  rintro e wr ⟨rfl, hbr⟩
  have hb2 := Lib.hid (hb.out.trans (hbr.mono hs))
  clear hb hs
  have hb := hb2
  clear hb2
  have hs := hb.out.size
  have gg := Lib.hid (isN_of hbr gx.out)
  clear gx
  have gx := gg
  clear gg
  have gg := Lib.hid (isN_of hbr ga.out)
  clear ga
  have ga := gg
  clear gg
  have gg := Lib.hid (isN_of hbr gb.out)
  clear gb
  have gb := gg
  clear gg
  clear hH hbr ca0 ca1 ca2 cb0 cb1 cb2
  obtain ⟨ca0, ca1, ca2⟩ := ga.out.all
  obtain ⟨cb0, cb1, cb2⟩ := gb.out.all
  dsimp only at ca0 ca1 ca2 cb0 cb1 cb2
  go_simp
  refine hK.out _ _ (by go_keep) (fun hH => ?_)
  clear hK K
  try simp only [List.getElem_toArray, List.getElem_cons_zero, List.getElem_cons_succ, Act.put, List.setIfInBounds_toArray, List.set_cons_zero, List.set_cons_succ]
  refine wpAnyH_take (i := 16) (v := ?_) rfl (by decide +kernel) (by decide +kernel) (by decide +kernel) (fun _ _ _ h => h) (Or.inl ⟨by rfl, ?_⟩) (by assumption) ?_
  rotate_left
  · intro w1 hSw; (try dsimp only at hSw); (try simp only [List.getElem_toArray, List.getElem_cons_zero, List.getElem_cons_succ]); go_simp; try with_reducible rfl
  try simp only [List.getElem_toArray, List.getElem_cons_zero, List.getElem_cons_succ, Act.put, List.setIfInBounds_toArray, List.set_cons_zero, List.set_cons_succ]
  refine wpAnyH_take (i := 17) (v := ?_) rfl (by decide +kernel) (by decide +kernel) (by decide +kernel) (fun _ _ _ h => h) (Or.inl ⟨by rfl, ?_⟩) (by assumption) ?_
  rotate_left
  · intro w1 hSw; (try dsimp only at hSw); (try simp only [List.getElem_toArray, List.getElem_cons_zero, List.getElem_cons_succ]); go_simp; try with_reducible rfl
  try simp only [List.getElem_toArray, List.getElem_cons_zero, List.getElem_cons_succ, Act.put, List.setIfInBounds_toArray, List.set_cons_zero, List.set_cons_succ]
  refine wpAnyH_take (i := 18) (v := ?_) rfl (by decide +kernel) (by decide +kernel) (by decide +kernel) (fun _ _ _ h => h) (Or.inl ⟨by rfl, ?_⟩) (by assumption) ?_
  rotate_left
  · intro w1 hSw; (try dsimp only at hSw); (try simp only [List.getElem_toArray, List.getElem_cons_zero, List.getElem_cons_succ]); go_simp; try with_reducible rfl
  try simp only [List.getElem_toArray, List.getElem_cons_zero, List.getElem_cons_succ, Act.put, List.setIfInBounds_toArray, List.set_cons_zero, List.set_cons_succ]
  refine wpAnyH_take (i := 19) (v := ?_) rfl (by decide +kernel) (by decide +kernel) (by decide +kernel) (fun _ _ _ h => h) (Or.inl ⟨by rfl, ?_⟩) (by assumption) ?_
  rotate_left
  · intro w1 hSw; (try dsimp only at hSw); (try simp only [List.getElem_toArray, List.getElem_cons_zero, List.getElem_cons_succ]); go_simp; try with_reducible rfl
  try simp only [List.getElem_toArray, List.getElem_cons_zero, List.getElem_cons_succ, Act.put, List.setIfInBounds_toArray, List.set_cons_zero, List.set_cons_succ]
  refine wpAnyH_take (i := 21) (v := ?_) rfl (by decide +kernel) (by decide +kernel) (by decide +kernel) (fun _ _ _ h => h) (Or.inl ⟨by rfl, ?_⟩) (by assumption) ?_
  rotate_left
  · intro w1 hSw; (try dsimp only at hSw); (try simp only [List.getElem_toArray, List.getElem_cons_zero, List.getElem_cons_succ]); go_simp; try with_reducible rfl
  try simp only [List.getElem_toArray, List.getElem_cons_zero, List.getElem_cons_succ, Act.put, List.setIfInBounds_toArray, List.set_cons_zero, List.set_cons_succ]
  refine wpAnyH_ready (rs := [20]) (by decide +kernel) (by simp) ?_
  refine AllReadyH.cons rfl (fun K hK => ?_) AllReadyH.nil
  (try simp only [List.getElem_toArray, List.getElem_cons_zero, List.getElem_cons_succ])
  go_simp
  refine (cg.on _).mono ?_
  rintro e wr ⟨rfl, hbr⟩
  have hb2 := Lib.hid (hb.out.trans (hbr.mono hs))
  clear hb hs
  have hb := hb2
  clear hb2
  have hs := hb.out.size
  have gg := Lib.hid (isN_of hbr gx.out)
  clear gx
  have gx := gg
  clear gg
  have gg := Lib.hid (isN_of hbr ga.out)
  clear ga
  have ga := gg
  clear gg
  have gg := Lib.hid (isN_of hbr gb.out)
  clear gb
  have gb := gg
  clear gg
  clear hH hbr ca0 ca1 ca2 cb0 cb1 cb2
  obtain ⟨ca0, ca1, ca2⟩ := ga.out.all
  obtain ⟨cb0, cb1, cb2⟩ := gb.out.all
  dsimp only at ca0 ca1 ca2 cb0 cb1 cb2
  go_simp
  refine hK.out _ _ (by go_keep) (fun hH => ?_)
  clear hK K
  try simp only [List.getElem_toArray, List.getElem_cons_zero, List.getElem_cons_succ, Act.put, List.setIfInBounds_toArray, List.set_cons_zero, List.set_cons_succ]
  refine wpAnyH_take (i := 22) (v := ?_) rfl (by decide +kernel) (by decide +kernel) (by decide +kernel) (fun _ _ _ h => h) (Or.inl ⟨by rfl, ?_⟩) (by assumption) ?_
  rotate_left
  · intro w1 hSw; (try dsimp only at hSw); (try simp only [List.getElem_toArray, List.getElem_cons_zero, List.getElem_cons_succ]); go_simp; try with_reducible rfl
  try simp only [List.getElem_toArray, List.getElem_cons_zero, List.getElem_cons_succ, Act.put, List.setIfInBounds_toArray, List.set_cons_zero, List.set_cons_succ]
  refine wpAnyH_take (i := 23) (v := ?_) rfl (by decide +kernel) (by decide +kernel) (by decide +kernel) (fun _ _ _ h => h) (Or.inl ⟨by rfl, ?_⟩) (by assumption) ?_
  rotate_left
  · intro w1 hSw; (try dsimp only at hSw); (try simp only [List.getElem_toArray, List.getElem_cons_zero, List.getElem_cons_succ]); go_simp; try with_reducible rfl
  try simp only [List.getElem_toArray, List.getElem_cons_zero, List.getElem_cons_succ, Act.put, List.setIfInBounds_toArray, List.set_cons_zero, List.set_cons_succ]
  refine wpAnyH_done (by decide +kernel) ?_ _
  clear hH
  clear ca0 ca1 ca2 cb0 cb1 cb2
  obtain ⟨cx0, cx1, cx2⟩ := gx.out.all
  dsimp only at cx0 cx1 cx2
  go_wp2_with fail
  refine (rf.on _).mono ?_
  rintro e w21 ⟨rfl, hb21⟩
  replace gx := Lib.hid (isN_of hb21 gx.out)
  replace ga := Lib.hid (isN_of hb21 ga.out)
  replace gb := Lib.hid (isN_of hb21 gb.out)
  replace hb := Lib.hid (hb.out.trans (hb21.mono hs))
  clear hs hb21
  have hs := hb.out.size
  clear cx0 cx1 cx2
  obtain ⟨cx0, cx1, cx2⟩ := gx.out.all
  dsimp only at cx0 cx1 cx2
  go_wp2_with fail
  refine (pu.on _).mono ?_
  rintro e w22 ⟨rfl, hb22⟩
  replace gx := Lib.hid (isN_of hb22 gx.out)
  replace ga := Lib.hid (isN_of hb22 ga.out)
  replace gb := Lib.hid (isN_of hb22 gb.out)
  replace hb := Lib.hid (hb.out.trans (hb22.mono hs))
  clear hs hb22
  have hs := hb.out.size
  clear cx0 cx1 cx2
  obtain ⟨cx0, cx1, cx2⟩ := gx.out.all
  dsimp only at cx0 cx1 cx2
  go_wp2_with fail
  refine (ft.on _).mono ?_
  rintro e w23 ⟨rfl, hb23⟩
  replace gx := Lib.hid (isN_of hb23 gx.out)
  replace ga := Lib.hid (isN_of hb23 ga.out)
  replace gb := Lib.hid (isN_of hb23 gb.out)
  replace hb := Lib.hid (hb.out.trans (hb23.mono hs))
  clear hs hb23
  have hs := hb.out.size
  clear cx0 cx1 cx2
  obtain ⟨cx0, cx1, cx2⟩ := gx.out.all
  dsimp only at cx0 cx1 cx2
  go_wp2_with fail
  refine (rp.on _).mono ?_
  rintro e w24 ⟨rfl, hb24⟩
  replace gx := Lib.hid (isN_of hb24 gx.out)
  replace ga := Lib.hid (isN_of hb24 ga.out)
  replace gb := Lib.hid (isN_of hb24 gb.out)
  replace hb := Lib.hid (hb.out.trans (hb24.mono hs))
  clear hs hb24
  have hs := hb.out.size
  have kx := gx.out.lt
  have ka := ga.out.lt
  have kb := gb.out.lt
  have hle := hs
  clear cx0 cx1 cx2
  replace gx := Lib.hid (gx.out.alloc (oN ⟨false, 0, 0⟩))
  replace ga := Lib.hid (ga.out.alloc (oN ⟨false, 0, 0⟩))
  replace gb := Lib.hid (gb.out.alloc (oN ⟨false, 0, 0⟩))
  have gv := Lib.hid (IsN.new w24 ⟨false, 0, 0⟩)
  replace hb := Lib.hid (hb.out.alloc hs (oN ⟨false, 0, 0⟩))
  clear hs
  have hs := hb.out.size
  go_wp2_with fail
  refine (cb.on _).mono ?_
  rintro e w25 ⟨rfl, hb25⟩
  replace gx := Lib.hid (isN_of hb25 gx.out)
  replace ga := Lib.hid (isN_of hb25 ga.out)
  replace gb := Lib.hid (isN_of hb25 gb.out)
  replace gv := Lib.hid (isN_of hb25 gv.out)
  replace hb := Lib.hid (hb.out.trans (hb25.mono hs))
  clear hs hb25
  have hs := hb.out.size
  replace hsz := hsz.out
  obtain ⟨cx0, cx1, cx2⟩ := gx.out.all
  dsimp only at cx0 cx1 cx2
  go_wp2_with fail
  refine (gd.on _).mono ?_
  rintro e w26 ⟨rfl, hb26⟩
  replace gx := Lib.hid (isN_of hb26 gx.out)
  replace ga := Lib.hid (isN_of hb26 ga.out)
  replace gb := Lib.hid (isN_of hb26 gb.out)
  replace gv := Lib.hid (isN_of hb26 gv.out)
  replace hb := Lib.hid (hb.out.trans (hb26.mono hs))
  clear hs hb26
  have hs := hb.out.size
  clear cx0 cx1 cx2
  obtain ⟨cx0, cx1, cx2⟩ := gx.out.all
  obtain ⟨cv0, cv1, cv2⟩ := gv.out.all
  dsimp only at cx0 cx1 cx2 cv0 cv1 cv2
  have vf := gv.out.f
  go_upto_region 13 with fail
  clear vf
  clear cx0 cx1 cx2 cv0 cv1 cv2
  replace gx := Lib.hid (gx.out.set3_other (c := w24.heap.size) (v0 := .bool xn) (v1 := .int .u64 xh) (v2 := .int .u64 xl) (by omega))
  replace ga := Lib.hid (ga.out.set3_other (c := w24.heap.size) (v0 := .bool xn) (v1 := .int .u64 xh) (v2 := .int .u64 xl) (by omega))
  replace gb := Lib.hid (gb.out.set3_other (c := w24.heap.size) (v0 := .bool xn) (v1 := .int .u64 xh) (v2 := .int .u64 xl) (by omega))
  replace gv := Lib.hid (gv.out.set xn xh xl)
  replace hb := Lib.hid (below_set3 hb.out (b := w24.heap.size) (by omega) (.bool xn) (.int .u64 xh) (.int .u64 xl))
  clear hs
  have hs := hb.out.size
  obtain ⟨cx0, cx1, cx2⟩ := gx.out.all
  obtain ⟨ca0, ca1, ca2⟩ := ga.out.all
  dsimp only at cx0 cx1 cx2 ca0 ca1 ca2
  replace d1 := d1.out
  go_wp2_with fail
  refine (c1.on _).mono ?_
  rintro e w27 ⟨rfl, hb27⟩
  replace gx := Lib.hid (isN_of hb27 gx.out)
  replace ga := Lib.hid (isN_of hb27 ga.out)
  replace gb := Lib.hid (isN_of hb27 gb.out)
  replace gv := Lib.hid (isN_of hb27 gv.out)
  replace hb := Lib.hid (hb.out.trans (hb27.mono hs))
  clear hs hb27
  have hs := hb.out.size
  clear cx0 cx1 cx2 ca0 ca1 ca2
  obtain ⟨cx0, cx1, cx2⟩ := gx.out.all
  obtain ⟨cb0, cb1, cb2⟩ := gb.out.all
  dsimp only at cx0 cx1 cx2 cb0 cb1 cb2
  replace d2 := d2.out
  go_wp2_with fail
  refine (c2.on _).mono ?_
  rintro e w28 ⟨rfl, hb28⟩
  replace gx := Lib.hid (isN_of hb28 gx.out)
  replace ga := Lib.hid (isN_of hb28 ga.out)
  replace gb := Lib.hid (isN_of hb28 gb.out)
  replace gv := Lib.hid (isN_of hb28 gv.out)
  replace hb := Lib.hid (hb.out.trans (hb28.mono hs))
  clear hs hb28
  have hs := hb.out.size
  replace hb := Lib.hid (below_drewed hb.out)
  clear hs
  have hs := hb.out.size
  clear cx0 cx1 cx2 cb0 cb1 cb2
  obtain ⟨cx0, cx1, cx2⟩ := gx.out.all
  obtain ⟨cv0, cv1, cv2⟩ := gv.out.all
  dsimp only at cx0 cx1 cx2 cv0 cv1 cv2
  go_wp2_with fail
  refine wp_region_held_at (S := fun w1 => w1.cell? ⟨w.heap.size, 0, none⟩ = some (.bool xn) ∧ w1.cell? ⟨w.heap.size, 1, none⟩ = some (.int .u64 xh) ∧ w1.cell? ⟨w.heap.size, 2, none⟩ = some (.int .u64 xl) ∧ w1.cell? ⟨w24.heap.size, 0, none⟩ = some (.bool xn) ∧ w1.cell? ⟨w24.heap.size, 1, none⟩ = some (.int .u64 xh) ∧ w1.cell? ⟨w24.heap.size, 2, none⟩ = some (.int .u64 xl)) 5 rfl (by kernel_rfl) (by go_keep) (fun hH => ?_)
  refine wpAnyH_take (i := 0) (v := ?_) rfl (by decide +kernel) (by decide +kernel) (by decide +kernel) (fun _ _ _ h => h) (Or.inl ⟨by rfl, ?_⟩) (by assumption) ?_
  rotate_left
  · intro w1 hSw; (try dsimp only at hSw); (try simp only [List.getElem_toArray, List.getElem_cons_zero]); go_simp; try with_reducible rfl
  try simp only [List.getElem_toArray, List.getElem_cons_zero, Act.put, List.setIfInBounds_toArray, List.set_cons_zero, List.set_cons_succ]
  refine wpAnyH_take (i := 1) (v := ?_) rfl (by decide +kernel) (by decide +kernel) (by decide +kernel) (fun _ _ _ h => h) (Or.inl ⟨by rfl, ?_⟩) (by assumption) ?_
  rotate_left
  · intro w1 hSw; (try dsimp only at hSw); (try simp only [List.getElem_toArray, List.getElem_cons_zero, List.getElem_cons_succ]); go_simp; try with_reducible rfl
  try simp only [List.getElem_toArray, List.getElem_cons_zero, List.getElem_cons_succ, Act.put, List.setIfInBounds_toArray, List.set_cons_zero, List.set_cons_succ]
  refine wpAnyH_take (i := 3) (v := ?_) rfl (by decide +kernel) (by decide +kernel) (by decide +kernel) (fun _ _ _ h => h) (Or.inl ⟨by rfl, ?_⟩) (by assumption) ?_
  rotate_left
  · intro w1 hSw; (try dsimp only at hSw); (try simp only [List.getElem_toArray, List.getElem_cons_zero, List.getElem_cons_succ]); go_simp; try with_reducible rfl
  try simp only [List.getElem_toArray, List.getElem_cons_zero, List.getElem_cons_succ, Act.put, List.setIfInBounds_toArray, List.set_cons_zero, List.set_cons_succ]
  refine wpAnyH_ready (rs := [2]) (by decide +kernel) (by simp) ?_
  refine AllReadyH.cons rfl (fun K hK => ?_) AllReadyH.nil
  (try simp only [List.getElem_toArray, List.getElem_cons_zero, List.getElem_cons_succ])
  go_simp
  refine (ck.on _).mono ?_
  rintro e wr ⟨rfl, hbr⟩
  have hb2 := Lib.hid (hb.out.trans (hbr.mono hs))
  clear hb hs
  have hb := hb2
  clear hb2
  have hs := hb.out.size
  have gg := Lib.hid (isN_of hbr gx.out)
  clear gx
  have gx := gg
  clear gg
  have gg := Lib.hid (isN_of hbr ga.out)
  clear ga
  have ga := gg
  clear gg
  have gg := Lib.hid (isN_of hbr gb.out)
  clear gb
  have gb := gg
  clear gg
  have gg := Lib.hid (isN_of hbr gv.out)
  clear gv
  have gv := gg
  clear gg
  clear hH hbr cx0 cx1 cx2 cv0 cv1 cv2
  obtain ⟨cx0, cx1, cx2⟩ := gx.out.all
  obtain ⟨cv0, cv1, cv2⟩ := gv.out.all
  dsimp only at cx0 cx1 cx2 cv0 cv1 cv2
  go_simp
  refine hK.out _ _ (by go_keep) (fun hH => ?_)
  clear hK K
  try simp only [List.getElem_toArray, List.getElem_cons_zero, List.getElem_cons_succ, Act.put, List.setIfInBounds_toArray, List.set_cons_zero, List.set_cons_succ]
  refine wpAnyH_take (i := 4) (v := ?_) rfl (by decide +kernel) (by decide +kernel) (by decide +kernel) (fun _ _ _ h => h) (Or.inl ⟨by rfl, ?_⟩) (by assumption) ?_
  rotate_left
  · intro w1 hSw; (try dsimp only at hSw); (try simp only [List.getElem_toArray, List.getElem_cons_zero, List.getElem_cons_succ]); go_simp; try with_reducible rfl
  try simp only [List.getElem_toArray, List.getElem_cons_zero, List.getElem_cons_succ, Act.put, List.setIfInBounds_toArray, List.set_cons_zero, List.set_cons_succ]
  refine wpAnyH_done (by decide +kernel) ?_ _
  clear hH
  clear cx0 cx1 cx2 cv0 cv1 cv2
  replace hsz0 := hsz0.out
  go_wp2_with fail
  refine (cb.on _).mono ?_
  rintro e w41 ⟨rfl, hb41⟩
  replace gx := Lib.hid (isN_of hb41 gx.out)
  replace ga := Lib.hid (isN_of hb41 ga.out)
  replace gb := Lib.hid (isN_of hb41 gb.out)
  replace gv := Lib.hid (isN_of hb41 gv.out)
  replace hb := Lib.hid (hb.out.trans (hb41.mono hs))
  clear hs hb41
  have hs := hb.out.size
  go_wp2_with fail
  go_ret
  exact ⟨rfl, hb.out⟩
end Go.Proofs.Ytbfigpollacngaa
