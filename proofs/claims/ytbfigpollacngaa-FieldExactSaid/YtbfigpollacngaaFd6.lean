/- the walks over package field, sixth part: what is not put, the nearest number -/
import Derived.Test.YtbfigpollacngaaFd5
namespace Go.Proofs.Ytbfigpollacngaa
open Go.RowKit
open Rf
open Wide
attribute [local go_sem ↓] Go.wp_at_zero Go.wp_at_succ

set_option maxRecDepth 10000 in
set_option maxHeartbeats 1000000 in
theorem put_nokind (k : Int) (x : WI) (hk : isK k = false) (w : World) :
    Calls Try.prog 20 #[.int .i64 k, wv x] w fun e w' => e = .returned (.tuple #[.string ByteArray.empty, .int .i64 1]) ∧ Below w.heap.size w w' := by
  have ci := kindB k
  rw [hk] at ci
  clear hk
  obtain ⟨xn, xh, xl⟩ := x
  unfold wv at *
  dsimp only at *
  replace ci := Lib.hid ci
  go_enter Try.func20, Try.ntmps20
  go_wp2_with fail
  refine (ci.out _).mono ?_
  rintro e w1 ⟨rfl, hb1⟩
  obtain ⟨gx, hb⟩ := one_new (x := ⟨xn, xh, xl⟩) hb1
  clear hb1 gx
  go_wp2_with fail
  go_ret2
  exact ⟨rfl, hb⟩
set_option maxRecDepth 10000 in
set_option maxHeartbeats 1000000 in
theorem put_nofit (k : Int) (x : WI) (ho : x.Ok) (hk : isK k = true) (hf : fitsF k x = false) (w : World) :
    Calls Try.prog 20 #[.int .i64 k, wv x] w fun e w' => e = .returned (.tuple #[.string ByteArray.empty, .int .i64 3]) ∧ Below w.heap.size w w' := by
  have ci := kindB k
  rw [hk] at ci
  have cf := fits_c k x ho
  rw [hf] at cf
  clear hk hf ho
  obtain ⟨xn, xh, xl⟩ := x
  unfold wv at *
  dsimp only at *
  replace ci := Lib.hid ci
  replace cf := Lib.hid cf
  go_enter Try.func20, Try.ntmps20
  go_wp2_with fail
  refine (ci.out _).mono ?_
  rintro e w1 ⟨rfl, hb1⟩
  obtain ⟨gx, hb⟩ := one_new (x := ⟨xn, xh, xl⟩) hb1
  have hs := hb.size
  clear hb1
  replace gx := Lib.hid gx
  replace hb := Lib.hid hb
  obtain ⟨cx0, cx1, cx2⟩ := gx.out.all
  dsimp only at cx0 cx1 cx2
  go_wp2_with fail
  refine (cf.out _).mono ?_
  rintro e w2 ⟨rfl, hb2⟩
  replace gx := Lib.hid (isN_of hb2 gx.out)
  replace hb := Lib.hid (hb.out.trans (hb2.mono hs))
  clear hs hb2
  have hs := hb.out.size
  clear cx0 cx1 cx2
  go_wp2_with fail
  go_ret2
  exact ⟨rfl, hb.out⟩
/-- a number's bytes, and the error -/
def putR (k : Int) (x : WI) : ByteArray × Int := if isK k = true then (if fitsF k x = true then (text (putF k x.val), 0) else (ByteArray.empty, 3)) else (ByteArray.empty, 1)
theorem put_c (k : Int) (x : WI) (ho : x.Ok) (w : World) :
    Calls Try.prog 20 #[.int .i64 k, wv x] w fun e w' => e = .returned (.tuple #[.string (putR k x).1, .int .i64 (putR k x).2]) ∧ Below w.heap.size w w' := by
  unfold putR
  cases hk : isK k with
  | false => exact put_nokind k x hk w
  | true =>
    cases hf : fitsF k x with
    | false => exact put_nofit k x ho hk hf w
    | true => exact put_yes k x ho hk hf w

/-- the nearest number -/
def clampF (k : Int) (x : WI) : WI := if (isK k && x.form) = true then (if x.val < lK k then mk (lK k) else if gK k < x.val then mk (gK k) else x) else zero
theorem sgn_ltz {v : Int} : sgn v < 0 ↔ v < 0 := by unfold sgn; split <;> (try split) <;> omega
theorem sgn_gtz {v : Int} : 0 < sgn v ↔ 0 < v := by unfold sgn; split <;> (try split) <;> omega

set_option maxRecDepth 10000 in
set_option maxHeartbeats 4000000 in
theorem clamp_nokind (k : Int) (x : WI) (ho : x.Ok) (hk : isK k = false) (w : World) : Calls Try.prog 25 #[.int .i64 k, wv x] w fun e w' => e = .returned (wv zero) ∧ Below w.heap.size w w' := by
  have ci := kindB k
  have cf := form_c x ho
  have cl := leastK_c k
  have c1 := cmp_c x (mk (lK k)) ho (mk_ok _ (lK_in k))
  have cg := greatK_c k
  have c2 := cmp_c x (mk (gK k)) ho (mk_ok _ (gK_in k))
  rw [hk] at ci
  clear ho
  generalize cmpF x (mk (lK k)) = u1 at *
  generalize cmpF x (mk (gK k)) = u2 at *
  generalize mk (lK k) = L at *
  generalize mk (gK k) = G at *
  obtain ⟨Ln, Lh, Ll⟩ := L
  obtain ⟨Gn, Gh, Gl⟩ := G
  obtain ⟨xn, xh, xl⟩ := x
  unfold wv zero at *
  dsimp only at *
  replace ci := Lib.hid ci
  replace cf := Lib.hid cf
  replace cl := Lib.hid cl
  replace c1 := Lib.hid c1
  replace cg := Lib.hid cg
  replace c2 := Lib.hid c2
  go_enter Try.func25, Try.ntmps25
  go_wp2_with fail
  refine (ci.out _).mono ?_
  rintro e w1 ⟨rfl, hb1⟩
  obtain ⟨gx, gz, hb⟩ := two_new (x := ⟨xn, xh, xl⟩) (y := ⟨false, 0, 0⟩) hb1
  have hs := hb.size
  clear hb1
  replace gx := Lib.hid gx
  replace gz := Lib.hid gz
  replace hb := Lib.hid hb
  obtain ⟨z0, z1, z2⟩ := gz.out.all
  have zf := gz.out.f
  obtain ⟨r0, r1, r2, hfin⟩ := last_set (w := w) (B := w.heap.size) gz.out ⟨false, 0, 0⟩ hb.out (by omega)
  dsimp only at r0 r1 r2 z0 z1 z2 hfin
  replace hfin := Lib.hid hfin
  clear gz gx hb
  go_wp2_with fail
  (try simp only [Exit.inBlock, Exit.then])
  refine bodyPost_ret (by simp [results, Try.results25, go_sem, r0, r1, r2]; try rfl) rfl ?_
  exact ⟨rfl, hfin.out⟩

set_option maxRecDepth 10000 in
set_option maxHeartbeats 4000000 in
theorem clamp_noform (k : Int) (x : WI) (ho : x.Ok) (hk : isK k = true) (hf : x.form = false) (w : World) : Calls Try.prog 25 #[.int .i64 k, wv x] w fun e w' => e = .returned (wv zero) ∧ Below w.heap.size w w' := by
  have ci := kindB k
  have cf := form_c x ho
  have cl := leastK_c k
  have c1 := cmp_c x (mk (lK k)) ho (mk_ok _ (lK_in k))
  have cg := greatK_c k
  have c2 := cmp_c x (mk (gK k)) ho (mk_ok _ (gK_in k))
  rw [hk] at ci
  rw [hf] at cf
  clear ho
  generalize cmpF x (mk (lK k)) = u1 at *
  generalize cmpF x (mk (gK k)) = u2 at *
  generalize mk (lK k) = L at *
  generalize mk (gK k) = G at *
  obtain ⟨Ln, Lh, Ll⟩ := L
  obtain ⟨Gn, Gh, Gl⟩ := G
  obtain ⟨xn, xh, xl⟩ := x
  unfold wv zero at *
  dsimp only at *
  replace ci := Lib.hid ci
  replace cf := Lib.hid cf
  replace cl := Lib.hid cl
  replace c1 := Lib.hid c1
  replace cg := Lib.hid cg
  replace c2 := Lib.hid c2
  go_enter Try.func25, Try.ntmps25
  go_wp2_with fail
  refine (ci.out _).mono ?_
  rintro e w1 ⟨rfl, hb1⟩
  obtain ⟨gx, gz, hb⟩ := two_new (x := ⟨xn, xh, xl⟩) (y := ⟨false, 0, 0⟩) hb1
  have hs := hb.size
  clear hb1
  replace gx := Lib.hid gx
  replace gz := Lib.hid gz
  replace hb := Lib.hid hb
  obtain ⟨cx0, cx1, cx2⟩ := gx.out.all
  dsimp only at cx0 cx1 cx2
  go_wp2_with fail
  refine (cf.out _).mono ?_
  rintro e w2 ⟨rfl, hb2⟩
  replace gx := Lib.hid (isN_of hb2 gx.out)
  replace gz := Lib.hid (isN_of hb2 gz.out)
  replace hb := Lib.hid (hb.out.trans (hb2.mono hs))
  clear hs hb2
  have hs := hb.out.size
  clear cx0 cx1 cx2
  obtain ⟨z0, z1, z2⟩ := gz.out.all
  have zf := gz.out.f
  obtain ⟨r0, r1, r2, hfin⟩ := last_set (w := w) (B := w.heap.size) gz.out ⟨false, 0, 0⟩ hb.out (by omega)
  dsimp only at r0 r1 r2 z0 z1 z2 hfin
  replace hfin := Lib.hid hfin
  clear gz gx hb
  go_wp2_with fail
  (try simp only [Exit.inBlock, Exit.then])
  refine bodyPost_ret (by simp [results, Try.results25, go_sem, r0, r1, r2]; try rfl) rfl ?_
  exact ⟨rfl, hfin.out⟩

set_option maxRecDepth 10000 in
set_option maxHeartbeats 4000000 in
theorem clamp_low (k : Int) (x : WI) (ho : x.Ok) (hk : isK k = true) (hf : x.form = true) (h1 : cmpF x (mk (lK k)) < 0) (w : World) : Calls Try.prog 25 #[.int .i64 k, wv x] w fun e w' => e = .returned (wv (mk (lK k))) ∧ Below w.heap.size w w' := by
  have ci := kindB k
  have cf := form_c x ho
  have cl := leastK_c k
  have c1 := cmp_c x (mk (lK k)) ho (mk_ok _ (lK_in k))
  have cg := greatK_c k
  have c2 := cmp_c x (mk (gK k)) ho (mk_ok _ (gK_in k))
  rw [hk] at ci
  rw [hf] at cf
  clear ho
  generalize cmpF x (mk (lK k)) = u1 at *
  generalize cmpF x (mk (gK k)) = u2 at *
  generalize mk (lK k) = L at *
  generalize mk (gK k) = G at *
  obtain ⟨Ln, Lh, Ll⟩ := L
  obtain ⟨Gn, Gh, Gl⟩ := G
  obtain ⟨xn, xh, xl⟩ := x
  unfold wv at *
  dsimp only at *
  replace ci := Lib.hid ci
  replace cf := Lib.hid cf
  replace cl := Lib.hid cl
  replace c1 := Lib.hid c1
  replace cg := Lib.hid cg
  replace c2 := Lib.hid c2
  go_enter Try.func25, Try.ntmps25
  go_wp2_with fail
  refine (ci.out _).mono ?_
  rintro e w1 ⟨rfl, hb1⟩
  obtain ⟨gx, gz, hb⟩ := two_new (x := ⟨xn, xh, xl⟩) (y := ⟨false, 0, 0⟩) hb1
  have hs := hb.size
  clear hb1
  replace gx := Lib.hid gx
  replace gz := Lib.hid gz
  replace hb := Lib.hid hb
  obtain ⟨cx0, cx1, cx2⟩ := gx.out.all
  dsimp only at cx0 cx1 cx2
  go_wp2_with fail
  refine (cf.out _).mono ?_
  rintro e w2 ⟨rfl, hb2⟩
  replace gx := Lib.hid (isN_of hb2 gx.out)
  replace gz := Lib.hid (isN_of hb2 gz.out)
  replace hb := Lib.hid (hb.out.trans (hb2.mono hs))
  clear hs hb2
  have hs := hb.out.size
  replace hb := Lib.hid (below_drewed hb.out)
  clear hs
  have hs := hb.out.size
  clear cx0 cx1 cx2
  obtain ⟨cx0, cx1, cx2⟩ := gx.out.all
  dsimp only at cx0 cx1 cx2
  go_wp2_with fail
  refine wp_region_held_at (S := fun w1 => w1.cell? ⟨w.heap.size, 0, none⟩ = some (.bool xn) ∧ w1.cell? ⟨w.heap.size, 1, none⟩ = some (.int .u64 xh) ∧ w1.cell? ⟨w.heap.size, 2, none⟩ = some (.int .u64 xl)) 6 rfl (by kernel_rfl) (by go_keep) (fun hH => ?_)
  refine wpAnyH_take (i := 0) (v := ?_) rfl (by decide +kernel) (by decide +kernel) (by decide +kernel) (fun _ _ _ h => h) (Or.inl ⟨by rfl, ?_⟩) (by assumption) ?_
  rotate_left
  · intro w1 hSw; (try dsimp only at hSw); (try simp only [List.getElem_toArray, List.getElem_cons_zero]); go_simp; try with_reducible rfl
  try simp only [List.getElem_toArray, List.getElem_cons_zero, Act.put, List.setIfInBounds_toArray, List.set_cons_zero, List.set_cons_succ]
  refine wpAnyH_take (i := 1) (v := ?_) rfl (by decide +kernel) (by decide +kernel) (by decide +kernel) (fun _ _ _ h => h) (Or.inl ⟨by rfl, ?_⟩) (by assumption) ?_
  rotate_left
  · intro w1 hSw; (try dsimp only at hSw); (try simp only [List.getElem_toArray, List.getElem_cons_zero, List.getElem_cons_succ]); go_simp; try with_reducible rfl
  try simp only [List.getElem_toArray, List.getElem_cons_zero, List.getElem_cons_succ, Act.put, List.setIfInBounds_toArray, List.set_cons_zero, List.set_cons_succ]
  refine wpAnyH_ready (rs := [2]) (by decide +kernel) (by simp) ?_
  refine AllReadyH.cons rfl (fun K hK => ?_) AllReadyH.nil
  (try simp only [List.getElem_toArray, List.getElem_cons_zero, List.getElem_cons_succ])
  go_simp
  refine (cl.out _).mono ?_
  rintro e wr ⟨rfl, hbr⟩
  have hb2 := Lib.hid (hb.out.trans (hbr.mono hs))
  clear hb hs
  have hb := hb2
  clear hb2
  have hs := hb.out.size
  have gg := Lib.hid (isN_of hbr gx.out)
  clear gx
  have gx := gg
  clear gg
  have gg := Lib.hid (isN_of hbr gz.out)
  clear gz
  have gz := gg
  clear gg
  clear hH hbr cx0 cx1 cx2
  obtain ⟨cx0, cx1, cx2⟩ := gx.out.all
  dsimp only at cx0 cx1 cx2
  go_simp
  refine hK.out _ _ (by go_keep) (fun hH => ?_)
  clear hK K
  try simp only [List.getElem_toArray, List.getElem_cons_zero, List.getElem_cons_succ, Act.put, List.setIfInBounds_toArray, List.set_cons_zero, List.set_cons_succ]
  refine wpAnyH_ready (rs := [3]) (by decide +kernel) (by simp) ?_
  refine AllReadyH.cons rfl (fun K hK => ?_) AllReadyH.nil
  (try simp only [List.getElem_toArray, List.getElem_cons_zero, List.getElem_cons_succ])
  go_simp
  refine (c1.out _).mono ?_
  rintro e wr ⟨rfl, hbr⟩
  have hb2 := Lib.hid (hb.out.trans (hbr.mono hs))
  clear hb hs
  have hb := hb2
  clear hb2
  have hs := hb.out.size
  have gg := Lib.hid (isN_of hbr gx.out)
  clear gx
  have gx := gg
  clear gg
  have gg := Lib.hid (isN_of hbr gz.out)
  clear gz
  have gz := gg
  clear gg
  clear hH hbr cx0 cx1 cx2
  obtain ⟨cx0, cx1, cx2⟩ := gx.out.all
  dsimp only at cx0 cx1 cx2
  go_simp
  refine hK.out _ _ (by go_keep) (fun hH => ?_)
  clear hK K
  try simp only [List.getElem_toArray, List.getElem_cons_zero, List.getElem_cons_succ, Act.put, List.setIfInBounds_toArray, List.set_cons_zero, List.set_cons_succ]
  refine wpAnyH_take (i := 4) (v := ?_) rfl (by decide +kernel) (by decide +kernel) (by decide +kernel) (fun _ _ _ h => h) (Or.inl ⟨by rfl, ?_⟩) (by assumption) ?_
  rotate_left
  · intro w1 hSw; (try dsimp only at hSw); (try simp only [List.getElem_toArray, List.getElem_cons_zero, List.getElem_cons_succ]); go_simp; try with_reducible rfl
  try simp only [List.getElem_toArray, List.getElem_cons_zero, List.getElem_cons_succ, Act.put, List.setIfInBounds_toArray, List.set_cons_zero, List.set_cons_succ]
  refine wpAnyH_take (i := 5) (v := ?_) rfl (by decide +kernel) (by decide +kernel) (by decide +kernel) (fun _ _ _ h => h) (Or.inl ⟨by rfl, ?_⟩) (by assumption) ?_
  rotate_left
  · intro w1 hSw; (try dsimp only at hSw); (try simp only [List.getElem_toArray, List.getElem_cons_zero, List.getElem_cons_succ]); go_simp; try with_reducible rfl
  try simp only [List.getElem_toArray, List.getElem_cons_zero, List.getElem_cons_succ, Act.put, List.setIfInBounds_toArray, List.set_cons_zero, List.set_cons_succ]
  refine wpAnyH_done (by decide +kernel) ?_ _
  clear hH
  clear cx0 cx1 cx2
  go_wp2_with fail
  refine (cl.out _).mono ?_
  rintro e w3 ⟨rfl, hb3⟩
  replace gx := Lib.hid (isN_of hb3 gx.out)
  replace gz := Lib.hid (isN_of hb3 gz.out)
  replace hb := Lib.hid (hb.out.trans (hb3.mono hs))
  clear hs hb3
  have hs := hb.out.size
  obtain ⟨z0, z1, z2⟩ := gz.out.all
  have zf := gz.out.f
  obtain ⟨r0, r1, r2, hfin⟩ := last_set (w := w) (B := w.heap.size) gz.out ⟨Ln, Lh, Ll⟩ hb.out (by omega)
  dsimp only at r0 r1 r2 z0 z1 z2 hfin
  replace hfin := Lib.hid hfin
  clear gz gx hb
  go_wp2_with fail
  (try simp only [Exit.inBlock, Exit.then])
  refine bodyPost_ret (by simp [results, Try.results25, go_sem, r0, r1, r2]; try rfl) rfl ?_
  exact ⟨rfl, hfin.out⟩

set_option maxRecDepth 10000 in
set_option maxHeartbeats 4000000 in
theorem clamp_high (k : Int) (x : WI) (ho : x.Ok) (hk : isK k = true) (hf : x.form = true) (h1 : ¬ cmpF x (mk (lK k)) < 0) (h2 : 0 < cmpF x (mk (gK k))) (w : World) : Calls Try.prog 25 #[.int .i64 k, wv x] w fun e w' => e = .returned (wv (mk (gK k))) ∧ Below w.heap.size w w' := by
  have ci := kindB k
  have cf := form_c x ho
  have cl := leastK_c k
  have c1 := cmp_c x (mk (lK k)) ho (mk_ok _ (lK_in k))
  have cg := greatK_c k
  have c2 := cmp_c x (mk (gK k)) ho (mk_ok _ (gK_in k))
  rw [hk] at ci
  rw [hf] at cf
  clear ho
  generalize cmpF x (mk (lK k)) = u1 at *
  generalize cmpF x (mk (gK k)) = u2 at *
  generalize mk (lK k) = L at *
  generalize mk (gK k) = G at *
  obtain ⟨Ln, Lh, Ll⟩ := L
  obtain ⟨Gn, Gh, Gl⟩ := G
  obtain ⟨xn, xh, xl⟩ := x
  unfold wv at *
  dsimp only at *
  replace ci := Lib.hid ci
  replace cf := Lib.hid cf
  replace cl := Lib.hid cl
  replace c1 := Lib.hid c1
  replace cg := Lib.hid cg
  replace c2 := Lib.hid c2
  go_enter Try.func25, Try.ntmps25
  go_wp2_with fail
  refine (ci.out _).mono ?_
  rintro e w1 ⟨rfl, hb1⟩
  obtain ⟨gx, gz, hb⟩ := two_new (x := ⟨xn, xh, xl⟩) (y := ⟨false, 0, 0⟩) hb1
  have hs := hb.size
  clear hb1
  replace gx := Lib.hid gx
  replace gz := Lib.hid gz
  replace hb := Lib.hid hb
  obtain ⟨cx0, cx1, cx2⟩ := gx.out.all
  dsimp only at cx0 cx1 cx2
  go_wp2_with fail
  refine (cf.out _).mono ?_
  rintro e w2 ⟨rfl, hb2⟩
  replace gx := Lib.hid (isN_of hb2 gx.out)
  replace gz := Lib.hid (isN_of hb2 gz.out)
  replace hb := Lib.hid (hb.out.trans (hb2.mono hs))
  clear hs hb2
  have hs := hb.out.size
  replace hb := Lib.hid (below_drewed hb.out)
  clear hs
  have hs := hb.out.size
  clear cx0 cx1 cx2
  obtain ⟨cx0, cx1, cx2⟩ := gx.out.all
  dsimp only at cx0 cx1 cx2
  go_wp2_with fail
  refine wp_region_held_at (S := fun w1 => w1.cell? ⟨w.heap.size, 0, none⟩ = some (.bool xn) ∧ w1.cell? ⟨w.heap.size, 1, none⟩ = some (.int .u64 xh) ∧ w1.cell? ⟨w.heap.size, 2, none⟩ = some (.int .u64 xl)) 6 rfl (by kernel_rfl) (by go_keep) (fun hH => ?_)
  refine wpAnyH_take (i := 0) (v := ?_) rfl (by decide +kernel) (by decide +kernel) (by decide +kernel) (fun _ _ _ h => h) (Or.inl ⟨by rfl, ?_⟩) (by assumption) ?_
  rotate_left
  · intro w1 hSw; (try dsimp only at hSw); (try simp only [List.getElem_toArray, List.getElem_cons_zero]); go_simp; try with_reducible rfl
  try simp only [List.getElem_toArray, List.getElem_cons_zero, Act.put, List.setIfInBounds_toArray, List.set_cons_zero, List.set_cons_succ]
  refine wpAnyH_take (i := 1) (v := ?_) rfl (by decide +kernel) (by decide +kernel) (by decide +kernel) (fun _ _ _ h => h) (Or.inl ⟨by rfl, ?_⟩) (by assumption) ?_
  rotate_left
  · intro w1 hSw; (try dsimp only at hSw); (try simp only [List.getElem_toArray, List.getElem_cons_zero, List.getElem_cons_succ]); go_simp; try with_reducible rfl
  try simp only [List.getElem_toArray, List.getElem_cons_zero, List.getElem_cons_succ, Act.put, List.setIfInBounds_toArray, List.set_cons_zero, List.set_cons_succ]
  refine wpAnyH_ready (rs := [2]) (by decide +kernel) (by simp) ?_
  refine AllReadyH.cons rfl (fun K hK => ?_) AllReadyH.nil
  (try simp only [List.getElem_toArray, List.getElem_cons_zero, List.getElem_cons_succ])
  go_simp
  refine (cl.out _).mono ?_
  rintro e wr ⟨rfl, hbr⟩
  have hb2 := Lib.hid (hb.out.trans (hbr.mono hs))
  clear hb hs
  have hb := hb2
  clear hb2
  have hs := hb.out.size
  have gg := Lib.hid (isN_of hbr gx.out)
  clear gx
  have gx := gg
  clear gg
  have gg := Lib.hid (isN_of hbr gz.out)
  clear gz
  have gz := gg
  clear gg
  clear hH hbr cx0 cx1 cx2
  obtain ⟨cx0, cx1, cx2⟩ := gx.out.all
  dsimp only at cx0 cx1 cx2
  go_simp
  refine hK.out _ _ (by go_keep) (fun hH => ?_)
  clear hK K
  try simp only [List.getElem_toArray, List.getElem_cons_zero, List.getElem_cons_succ, Act.put, List.setIfInBounds_toArray, List.set_cons_zero, List.set_cons_succ]
  refine wpAnyH_ready (rs := [3]) (by decide +kernel) (by simp) ?_
  refine AllReadyH.cons rfl (fun K hK => ?_) AllReadyH.nil
  (try simp only [List.getElem_toArray, List.getElem_cons_zero, List.getElem_cons_succ])
  go_simp
  refine (c1.out _).mono ?_
  rintro e wr ⟨rfl, hbr⟩
  have hb2 := Lib.hid (hb.out.trans (hbr.mono hs))
  clear hb hs
  have hb := hb2
  clear hb2
  have hs := hb.out.size
  have gg := Lib.hid (isN_of hbr gx.out)
  clear gx
  have gx := gg
  clear gg
  have gg := Lib.hid (isN_of hbr gz.out)
  clear gz
  have gz := gg
  clear gg
  clear hH hbr cx0 cx1 cx2
  obtain ⟨cx0, cx1, cx2⟩ := gx.out.all
  dsimp only at cx0 cx1 cx2
  go_simp
  refine hK.out _ _ (by go_keep) (fun hH => ?_)
  clear hK K
  try simp only [List.getElem_toArray, List.getElem_cons_zero, List.getElem_cons_succ, Act.put, List.setIfInBounds_toArray, List.set_cons_zero, List.set_cons_succ]
  refine wpAnyH_take (i := 4) (v := ?_) rfl (by decide +kernel) (by decide +kernel) (by decide +kernel) (fun _ _ _ h => h) (Or.inl ⟨by rfl, ?_⟩) (by assumption) ?_
  rotate_left
  · intro w1 hSw; (try dsimp only at hSw); (try simp only [List.getElem_toArray, List.getElem_cons_zero, List.getElem_cons_succ]); go_simp; try with_reducible rfl
  try simp only [List.getElem_toArray, List.getElem_cons_zero, List.getElem_cons_succ, Act.put, List.setIfInBounds_toArray, List.set_cons_zero, List.set_cons_succ]
  refine wpAnyH_take (i := 5) (v := ?_) rfl (by decide +kernel) (by decide +kernel) (by decide +kernel) (fun _ _ _ h => h) (Or.inl ⟨by rfl, ?_⟩) (by assumption) ?_
  rotate_left
  · intro w1 hSw; (try dsimp only at hSw); (try simp only [List.getElem_toArray, List.getElem_cons_zero, List.getElem_cons_succ]); go_simp; try with_reducible rfl
  try simp only [List.getElem_toArray, List.getElem_cons_zero, List.getElem_cons_succ, Act.put, List.setIfInBounds_toArray, List.set_cons_zero, List.set_cons_succ]
  refine wpAnyH_done (by decide +kernel) ?_ _
  clear hH
  replace hb := Lib.hid (below_drewed hb.out)
  clear hs
  have hs := hb.out.size
  clear cx0 cx1 cx2
  obtain ⟨cx0, cx1, cx2⟩ := gx.out.all
  dsimp only at cx0 cx1 cx2
  go_wp2_with fail
  refine wp_region_held_at (S := fun w1 => w1.cell? ⟨w.heap.size, 0, none⟩ = some (.bool xn) ∧ w1.cell? ⟨w.heap.size, 1, none⟩ = some (.int .u64 xh) ∧ w1.cell? ⟨w.heap.size, 2, none⟩ = some (.int .u64 xl)) 6 rfl (by kernel_rfl) (by go_keep) (fun hH => ?_)
  refine wpAnyH_take (i := 0) (v := ?_) rfl (by decide +kernel) (by decide +kernel) (by decide +kernel) (fun _ _ _ h => h) (Or.inl ⟨by rfl, ?_⟩) (by assumption) ?_
  rotate_left
  · intro w1 hSw; (try dsimp only at hSw); (try simp only [List.getElem_toArray, List.getElem_cons_zero]); go_simp; try with_reducible rfl
  try simp only [List.getElem_toArray, List.getElem_cons_zero, Act.put, List.setIfInBounds_toArray, List.set_cons_zero, List.set_cons_succ]
  refine wpAnyH_take (i := 1) (v := ?_) rfl (by decide +kernel) (by decide +kernel) (by decide +kernel) (fun _ _ _ h => h) (Or.inl ⟨by rfl, ?_⟩) (by assumption) ?_
  rotate_left
  · intro w1 hSw; (try dsimp only at hSw); (try simp only [List.getElem_toArray, List.getElem_cons_zero, List.getElem_cons_succ]); go_simp; try with_reducible rfl
  try simp only [List.getElem_toArray, List.getElem_cons_zero, List.getElem_cons_succ, Act.put, List.setIfInBounds_toArray, List.set_cons_zero, List.set_cons_succ]
  refine wpAnyH_ready (rs := [2]) (by decide +kernel) (by simp) ?_
  refine AllReadyH.cons rfl (fun K hK => ?_) AllReadyH.nil
  (try simp only [List.getElem_toArray, List.getElem_cons_zero, List.getElem_cons_succ])
  go_simp
  refine (cg.out _).mono ?_
  rintro e wr ⟨rfl, hbr⟩
  have hb2 := Lib.hid (hb.out.trans (hbr.mono hs))
  clear hb hs
  have hb := hb2
  clear hb2
  have hs := hb.out.size
  have gg := Lib.hid (isN_of hbr gx.out)
  clear gx
  have gx := gg
  clear gg
  have gg := Lib.hid (isN_of hbr gz.out)
  clear gz
  have gz := gg
  clear gg
  clear hH hbr cx0 cx1 cx2
  obtain ⟨cx0, cx1, cx2⟩ := gx.out.all
  dsimp only at cx0 cx1 cx2
  go_simp
  refine hK.out _ _ (by go_keep) (fun hH => ?_)
  clear hK K
  try simp only [List.getElem_toArray, List.getElem_cons_zero, List.getElem_cons_succ, Act.put, List.setIfInBounds_toArray, List.set_cons_zero, List.set_cons_succ]
  refine wpAnyH_ready (rs := [3]) (by decide +kernel) (by simp) ?_
  refine AllReadyH.cons rfl (fun K hK => ?_) AllReadyH.nil
  (try simp only [List.getElem_toArray, List.getElem_cons_zero, List.getElem_cons_succ])
  go_simp
  refine (c2.out _).mono ?_
  rintro e wr ⟨rfl, hbr⟩
  have hb2 := Lib.hid (hb.out.trans (hbr.mono hs))
  clear hb hs
  have hb := hb2
  clear hb2
  have hs := hb.out.size
  have gg := Lib.hid (isN_of hbr gx.out)
  clear gx
  have gx := gg
  clear gg
  have gg := Lib.hid (isN_of hbr gz.out)
  clear gz
  have gz := gg
  clear gg
  clear hH hbr cx0 cx1 cx2
  obtain ⟨cx0, cx1, cx2⟩ := gx.out.all
  dsimp only at cx0 cx1 cx2
  go_simp
  refine hK.out _ _ (by go_keep) (fun hH => ?_)
  clear hK K
  try simp only [List.getElem_toArray, List.getElem_cons_zero, List.getElem_cons_succ, Act.put, List.setIfInBounds_toArray, List.set_cons_zero, List.set_cons_succ]
  refine wpAnyH_take (i := 4) (v := ?_) rfl (by decide +kernel) (by decide +kernel) (by decide +kernel) (fun _ _ _ h => h) (Or.inl ⟨by rfl, ?_⟩) (by assumption) ?_
  rotate_left
  · intro w1 hSw; (try dsimp only at hSw); (try simp only [List.getElem_toArray, List.getElem_cons_zero, List.getElem_cons_succ]); go_simp; try with_reducible rfl
  try simp only [List.getElem_toArray, List.getElem_cons_zero, List.getElem_cons_succ, Act.put, List.setIfInBounds_toArray, List.set_cons_zero, List.set_cons_succ]
  refine wpAnyH_take (i := 5) (v := ?_) rfl (by decide +kernel) (by decide +kernel) (by decide +kernel) (fun _ _ _ h => h) (Or.inl ⟨by rfl, ?_⟩) (by assumption) ?_
  rotate_left
  · intro w1 hSw; (try dsimp only at hSw); (try simp only [List.getElem_toArray, List.getElem_cons_zero, List.getElem_cons_succ]); go_simp; try with_reducible rfl
  try simp only [List.getElem_toArray, List.getElem_cons_zero, List.getElem_cons_succ, Act.put, List.setIfInBounds_toArray, List.set_cons_zero, List.set_cons_succ]
  refine wpAnyH_done (by decide +kernel) ?_ _
  clear hH
  clear cx0 cx1 cx2
  go_wp2_with fail
  refine (cg.out _).mono ?_
  rintro e w3 ⟨rfl, hb3⟩
  replace gx := Lib.hid (isN_of hb3 gx.out)
  replace gz := Lib.hid (isN_of hb3 gz.out)
  replace hb := Lib.hid (hb.out.trans (hb3.mono hs))
  clear hs hb3
  have hs := hb.out.size
  obtain ⟨z0, z1, z2⟩ := gz.out.all
  have zf := gz.out.f
  obtain ⟨r0, r1, r2, hfin⟩ := last_set (w := w) (B := w.heap.size) gz.out ⟨Gn, Gh, Gl⟩ hb.out (by omega)
  dsimp only at r0 r1 r2 z0 z1 z2 hfin
  replace hfin := Lib.hid hfin
  clear gz gx hb
  go_wp2_with fail
  (try simp only [Exit.inBlock, Exit.then])
  refine bodyPost_ret (by simp [results, Try.results25, go_sem, r0, r1, r2]; try rfl) rfl ?_
  exact ⟨rfl, hfin.out⟩

set_option maxRecDepth 10000 in
set_option maxHeartbeats 4000000 in
theorem clamp_mid (k : Int) (x : WI) (ho : x.Ok) (hk : isK k = true) (hf : x.form = true) (h1 : ¬ cmpF x (mk (lK k)) < 0) (h2 : ¬ 0 < cmpF x (mk (gK k))) (w : World) : Calls Try.prog 25 #[.int .i64 k, wv x] w fun e w' => e = .returned (wv x) ∧ Below w.heap.size w w' := by
  have ci := kindB k
  have cf := form_c x ho
  have cl := leastK_c k
  have c1 := cmp_c x (mk (lK k)) ho (mk_ok _ (lK_in k))
  have cg := greatK_c k
  have c2 := cmp_c x (mk (gK k)) ho (mk_ok _ (gK_in k))
  rw [hk] at ci
  rw [hf] at cf
  clear ho
  generalize cmpF x (mk (lK k)) = u1 at *
  generalize cmpF x (mk (gK k)) = u2 at *
  generalize mk (lK k) = L at *
  generalize mk (gK k) = G at *
  obtain ⟨Ln, Lh, Ll⟩ := L
  obtain ⟨Gn, Gh, Gl⟩ := G
  obtain ⟨xn, xh, xl⟩ := x
  unfold wv at *
  dsimp only at *
  replace ci := Lib.hid ci
  replace cf := Lib.hid cf
  replace cl := Lib.hid cl
  replace c1 := Lib.hid c1
  replace cg := Lib.hid cg
  replace c2 := Lib.hid c2
  go_enter Try.func25, Try.ntmps25
  go_wp2_with fail
  refine (ci.out _).mono ?_
  rintro e w1 ⟨rfl, hb1⟩
  obtain ⟨gx, gz, hb⟩ := two_new (x := ⟨xn, xh, xl⟩) (y := ⟨false, 0, 0⟩) hb1
  have hs := hb.size
  clear hb1
  replace gx := Lib.hid gx
  replace gz := Lib.hid gz
  replace hb := Lib.hid hb
  obtain ⟨cx0, cx1, cx2⟩ := gx.out.all
  dsimp only at cx0 cx1 cx2
  go_wp2_with fail
  refine (cf.out _).mono ?_
  rintro e w2 ⟨rfl, hb2⟩
  replace gx := Lib.hid (isN_of hb2 gx.out)
  replace gz := Lib.hid (isN_of hb2 gz.out)
  replace hb := Lib.hid (hb.out.trans (hb2.mono hs))
  clear hs hb2
  have hs := hb.out.size
  replace hb := Lib.hid (below_drewed hb.out)
  clear hs
  have hs := hb.out.size
  clear cx0 cx1 cx2
  obtain ⟨cx0, cx1, cx2⟩ := gx.out.all
  dsimp only at cx0 cx1 cx2
  go_wp2_with fail
  refine wp_region_held_at (S := fun w1 => w1.cell? ⟨w.heap.size, 0, none⟩ = some (.bool xn) ∧ w1.cell? ⟨w.heap.size, 1, none⟩ = some (.int .u64 xh) ∧ w1.cell? ⟨w.heap.size, 2, none⟩ = some (.int .u64 xl)) 6 rfl (by kernel_rfl) (by go_keep) (fun hH => ?_)
  refine wpAnyH_take (i := 0) (v := ?_) rfl (by decide +kernel) (by decide +kernel) (by decide +kernel) (fun _ _ _ h => h) (Or.inl ⟨by rfl, ?_⟩) (by assumption) ?_
  rotate_left
  · intro w1 hSw; (try dsimp only at hSw); (try simp only [List.getElem_toArray, List.getElem_cons_zero]); go_simp; try with_reducible rfl
  try simp only [List.getElem_toArray, List.getElem_cons_zero, Act.put, List.setIfInBounds_toArray, List.set_cons_zero, List.set_cons_succ]
  refine wpAnyH_take (i := 1) (v := ?_) rfl (by decide +kernel) (by decide +kernel) (by decide +kernel) (fun _ _ _ h => h) (Or.inl ⟨by rfl, ?_⟩) (by assumption) ?_
  rotate_left
  · intro w1 hSw; (try dsimp only at hSw); (try simp only [List.getElem_toArray, List.getElem_cons_zero, List.getElem_cons_succ]); go_simp; try with_reducible rfl
  try simp only [List.getElem_toArray, List.getElem_cons_zero, List.getElem_cons_succ, Act.put, List.setIfInBounds_toArray, List.set_cons_zero, List.set_cons_succ]
  refine wpAnyH_ready (rs := [2]) (by decide +kernel) (by simp) ?_
  refine AllReadyH.cons rfl (fun K hK => ?_) AllReadyH.nil
  (try simp only [List.getElem_toArray, List.getElem_cons_zero, List.getElem_cons_succ])
  go_simp
  refine (cl.out _).mono ?_
  rintro e wr ⟨rfl, hbr⟩
  have hb2 := Lib.hid (hb.out.trans (hbr.mono hs))
  clear hb hs
  have hb := hb2
  clear hb2
  have hs := hb.out.size
  have gg := Lib.hid (isN_of hbr gx.out)
  clear gx
  have gx := gg
  clear gg
  have gg := Lib.hid (isN_of hbr gz.out)
  clear gz
  have gz := gg
  clear gg
  clear hH hbr cx0 cx1 cx2
  obtain ⟨cx0, cx1, cx2⟩ := gx.out.all
  dsimp only at cx0 cx1 cx2
  go_simp
  refine hK.out _ _ (by go_keep) (fun hH => ?_)
  clear hK K
  try simp only [List.getElem_toArray, List.getElem_cons_zero, List.getElem_cons_succ, Act.put, List.setIfInBounds_toArray, List.set_cons_zero, List.set_cons_succ]
  refine wpAnyH_ready (rs := [3]) (by decide +kernel) (by simp) ?_
  refine AllReadyH.cons rfl (fun K hK => ?_) AllReadyH.nil
  (try simp only [List.getElem_toArray, List.getElem_cons_zero, List.getElem_cons_succ])
  go_simp
  refine (c1.out _).mono ?_
  rintro e wr ⟨rfl, hbr⟩
  have hb2 := Lib.hid (hb.out.trans (hbr.mono hs))
  clear hb hs
  have hb := hb2
  clear hb2
  have hs := hb.out.size
  have gg := Lib.hid (isN_of hbr gx.out)
  clear gx
  have gx := gg
  clear gg
  have gg := Lib.hid (isN_of hbr gz.out)
  clear gz
  have gz := gg
  clear gg
  clear hH hbr cx0 cx1 cx2
  obtain ⟨cx0, cx1, cx2⟩ := gx.out.all
  dsimp only at cx0 cx1 cx2
  go_simp
  refine hK.out _ _ (by go_keep) (fun hH => ?_)
  clear hK K
  try simp only [List.getElem_toArray, List.getElem_cons_zero, List.getElem_cons_succ, Act.put, List.setIfInBounds_toArray, List.set_cons_zero, List.set_cons_succ]
  refine wpAnyH_take (i := 4) (v := ?_) rfl (by decide +kernel) (by decide +kernel) (by decide +kernel) (fun _ _ _ h => h) (Or.inl ⟨by rfl, ?_⟩) (by assumption) ?_
  rotate_left
  · intro w1 hSw; (try dsimp only at hSw); (try simp only [List.getElem_toArray, List.getElem_cons_zero, List.getElem_cons_succ]); go_simp; try with_reducible rfl
  try simp only [List.getElem_toArray, List.getElem_cons_zero, List.getElem_cons_succ, Act.put, List.setIfInBounds_toArray, List.set_cons_zero, List.set_cons_succ]
  refine wpAnyH_take (i := 5) (v := ?_) rfl (by decide +kernel) (by decide +kernel) (by decide +kernel) (fun _ _ _ h => h) (Or.inl ⟨by rfl, ?_⟩) (by assumption) ?_
  rotate_left
  · intro w1 hSw; (try dsimp only at hSw); (try simp only [List.getElem_toArray, List.getElem_cons_zero, List.getElem_cons_succ]); go_simp; try with_reducible rfl
  try simp only [List.getElem_toArray, List.getElem_cons_zero, List.getElem_cons_succ, Act.put, List.setIfInBounds_toArray, List.set_cons_zero, List.set_cons_succ]
  refine wpAnyH_done (by decide +kernel) ?_ _
  clear hH
  replace hb := Lib.hid (below_drewed hb.out)
  clear hs
  have hs := hb.out.size
  clear cx0 cx1 cx2
  obtain ⟨cx0, cx1, cx2⟩ := gx.out.all
  dsimp only at cx0 cx1 cx2
  go_wp2_with fail
  refine wp_region_held_at (S := fun w1 => w1.cell? ⟨w.heap.size, 0, none⟩ = some (.bool xn) ∧ w1.cell? ⟨w.heap.size, 1, none⟩ = some (.int .u64 xh) ∧ w1.cell? ⟨w.heap.size, 2, none⟩ = some (.int .u64 xl)) 6 rfl (by kernel_rfl) (by go_keep) (fun hH => ?_)
  refine wpAnyH_take (i := 0) (v := ?_) rfl (by decide +kernel) (by decide +kernel) (by decide +kernel) (fun _ _ _ h => h) (Or.inl ⟨by rfl, ?_⟩) (by assumption) ?_
  rotate_left
  · intro w1 hSw; (try dsimp only at hSw); (try simp only [List.getElem_toArray, List.getElem_cons_zero]); go_simp; try with_reducible rfl
  try simp only [List.getElem_toArray, List.getElem_cons_zero, Act.put, List.setIfInBounds_toArray, List.set_cons_zero, List.set_cons_succ]
  refine wpAnyH_take (i := 1) (v := ?_) rfl (by decide +kernel) (by decide +kernel) (by decide +kernel) (fun _ _ _ h => h) (Or.inl ⟨by rfl, ?_⟩) (by assumption) ?_
  rotate_left
  · intro w1 hSw; (try dsimp only at hSw); (try simp only [List.getElem_toArray, List.getElem_cons_zero, List.getElem_cons_succ]); go_simp; try with_reducible rfl
  try simp only [List.getElem_toArray, List.getElem_cons_zero, List.getElem_cons_succ, Act.put, List.setIfInBounds_toArray, List.set_cons_zero, List.set_cons_succ]
  refine wpAnyH_ready (rs := [2]) (by decide +kernel) (by simp) ?_
  refine AllReadyH.cons rfl (fun K hK => ?_) AllReadyH.nil
  (try simp only [List.getElem_toArray, List.getElem_cons_zero, List.getElem_cons_succ])
  go_simp
  refine (cg.out _).mono ?_
  rintro e wr ⟨rfl, hbr⟩
  have hb2 := Lib.hid (hb.out.trans (hbr.mono hs))
  clear hb hs
  have hb := hb2
  clear hb2
  have hs := hb.out.size
  have gg := Lib.hid (isN_of hbr gx.out)
  clear gx
  have gx := gg
  clear gg
  have gg := Lib.hid (isN_of hbr gz.out)
  clear gz
  have gz := gg
  clear gg
  clear hH hbr cx0 cx1 cx2
  obtain ⟨cx0, cx1, cx2⟩ := gx.out.all
  dsimp only at cx0 cx1 cx2
  go_simp
  refine hK.out _ _ (by go_keep) (fun hH => ?_)
  clear hK K
  try simp only [List.getElem_toArray, List.getElem_cons_zero, List.getElem_cons_succ, Act.put, List.setIfInBounds_toArray, List.set_cons_zero, List.set_cons_succ]
  refine wpAnyH_ready (rs := [3]) (by decide +kernel) (by simp) ?_
  refine AllReadyH.cons rfl (fun K hK => ?_) AllReadyH.nil
  (try simp only [List.getElem_toArray, List.getElem_cons_zero, List.getElem_cons_succ])
  go_simp
  refine (c2.out _).mono ?_
  rintro e wr ⟨rfl, hbr⟩
  have hb2 := Lib.hid (hb.out.trans (hbr.mono hs))
  clear hb hs
  have hb := hb2
  clear hb2
  have hs := hb.out.size
  have gg := Lib.hid (isN_of hbr gx.out)
  clear gx
  have gx := gg
  clear gg
  have gg := Lib.hid (isN_of hbr gz.out)
  clear gz
  have gz := gg
  clear gg
  clear hH hbr cx0 cx1 cx2
  obtain ⟨cx0, cx1, cx2⟩ := gx.out.all
  dsimp only at cx0 cx1 cx2
  go_simp
  refine hK.out _ _ (by go_keep) (fun hH => ?_)
  clear hK K
  try simp only [List.getElem_toArray, List.getElem_cons_zero, List.getElem_cons_succ, Act.put, List.setIfInBounds_toArray, List.set_cons_zero, List.set_cons_succ]
  refine wpAnyH_take (i := 4) (v := ?_) rfl (by decide +kernel) (by decide +kernel) (by decide +kernel) (fun _ _ _ h => h) (Or.inl ⟨by rfl, ?_⟩) (by assumption) ?_
  rotate_left
  · intro w1 hSw; (try dsimp only at hSw); (try simp only [List.getElem_toArray, List.getElem_cons_zero, List.getElem_cons_succ]); go_simp; try with_reducible rfl
  try simp only [List.getElem_toArray, List.getElem_cons_zero, List.getElem_cons_succ, Act.put, List.setIfInBounds_toArray, List.set_cons_zero, List.set_cons_succ]
  refine wpAnyH_take (i := 5) (v := ?_) rfl (by decide +kernel) (by decide +kernel) (by decide +kernel) (fun _ _ _ h => h) (Or.inl ⟨by rfl, ?_⟩) (by assumption) ?_
  rotate_left
  · intro w1 hSw; (try dsimp only at hSw); (try simp only [List.getElem_toArray, List.getElem_cons_zero, List.getElem_cons_succ]); go_simp; try with_reducible rfl
  try simp only [List.getElem_toArray, List.getElem_cons_zero, List.getElem_cons_succ, Act.put, List.setIfInBounds_toArray, List.set_cons_zero, List.set_cons_succ]
  refine wpAnyH_done (by decide +kernel) ?_ _
  clear hH
  clear cx0 cx1 cx2
  obtain ⟨cx0, cx1, cx2⟩ := gx.out.all
  dsimp only at cx0 cx1 cx2
  obtain ⟨z0, z1, z2⟩ := gz.out.all
  have zf := gz.out.f
  obtain ⟨r0, r1, r2, hfin⟩ := last_set (w := w) (B := w.heap.size) gz.out ⟨xn, xh, xl⟩ hb.out (by omega)
  dsimp only at r0 r1 r2 z0 z1 z2 hfin
  replace hfin := Lib.hid hfin
  clear gz gx hb
  go_wp2_with fail
  (try simp only [Exit.inBlock, Exit.then])
  refine bodyPost_ret (by simp [results, Try.results25, go_sem, r0, r1, r2]; try rfl) rfl ?_
  exact ⟨rfl, hfin.out⟩

theorem clamp_c (k : Int) (x : WI) (ho : x.Ok) (w : World) : Calls Try.prog 25 #[.int .i64 k, wv x] w fun e w' => e = .returned (wv (clampF k x)) ∧ Below w.heap.size w w' := by
  unfold clampF
  cases hk : isK k with
  | false => exact clamp_nokind k x ho hk w
  | true =>
    cases hf : x.form with
    | false => exact clamp_noform k x ho hk hf w
    | true =>
      have e1 := cmp_mk hf (lK_in k)
      have e2 := cmp_mk hf (gK_in k)
      rw [Bool.and_self, if_pos rfl]
      by_cases h1 : x.val < lK k
      · rw [if_pos h1]
        exact clamp_low k x ho hk hf (by rw [e1, sgn_ltz]; omega) w
      · rw [if_neg h1]
        by_cases h2 : gK k < x.val
        · rw [if_pos h2]
          exact clamp_high k x ho hk hf (by rw [e1, sgn_ltz]; omega) (by rw [e2, sgn_gtz]; omega) w
        · rw [if_neg h2]
          exact clamp_mid k x ho hk hf (by rw [e1, sgn_ltz]; omega) (by rw [e2, sgn_gtz]; omega) w
end Go.Proofs.Ytbfigpollacngaa
