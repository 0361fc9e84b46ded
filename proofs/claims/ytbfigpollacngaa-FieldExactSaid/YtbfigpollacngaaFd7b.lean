/- the walks over package field, seventh part, on: the number of bytes below 0 -/
import Derived.Test.YtbfigpollacngaaFd7
namespace Go.Proofs.Ytbfigpollacngaa
open Go.RowKit
open Rf
open Wide
attribute [local go_sem ↓] Go.wp_at_zero Go.wp_at_succ

set_option maxRecDepth 100000 in
set_option maxHeartbeats 8000000 in
theorem get_M0 (k sz n : Int) (s nm : ByteArray) (rest : List UInt8) (bad : Bool) (G : WI) (u : Int) (P ye ze : Int) (Y Z : WI) (ci : Ret 32 #[.int .i64 k] (.bool true)) (cs : Ret 15 #[.int .i64 k] (.int .i64 sz))
    (cn : ∀ (w : World) (b : Nat), IsR 85 w b (byts s) false → Answers 35 #[.pointer (some ⟨b, 0, none⟩), .int .i64 sz] (.int .u64 n) 85 w b rest bad)
    (cw : Ret 34 #[.int .u64 n] (wv ⟨false, 0, n⟩)) (ca : Ret 36 #[.int .i64 k] (.agg #[.string nm, .int .i64 sz, .bool true]))
    (cd : ∀ (w : World) (b : Nat), IsR 85 w b rest bad → Quiet 38 #[.pointer (some ⟨b, 0, none⟩)] (.bool false) w) (cg : Ret 18 #[.int .i64 k] (wv G)) (c2 : Ret 30 #[wv ⟨false, 0, n⟩, wv G] (.int .i64 u)) (d1 : decide (0 < u) = true) (hz0 : 0 ≤ sz) (hz1 : sz ≤ 8) (cp : Ret 37 #[.int .i64 (sz * 8)] (.int .u64 P)) (cwp : Ret 34 #[.int .u64 P] (wv ⟨false, 0, P⟩))
    (cs1 : Ret 28 #[wv ⟨false, 0, n⟩, wv ⟨false, 0, P⟩] (.tuple #[wv Y, .int .i64 ye])) (c1 : Ret 27 #[.int .i64 1] (wv ⟨false, 0, 1⟩))
    (cs2 : Ret 28 #[wv Y, wv ⟨false, 0, 1⟩] (.tuple #[wv Z, .int .i64 ze])) (w : World) :
    Calls Try.prog 9 #[.int .i64 k, .string s] w fun e w' => e = .returned (.tuple #[wv zero, .int .i64 4]) ∧ Below w.heap.size w w' := by
  obtain ⟨Gn, Gh, Gl⟩ := G
  obtain ⟨Yn, Yh, Yl⟩ := Y
  obtain ⟨Zn, Zh, Zl⟩ := Z
  have hw8 : IntKind.i64.wrap (sz * 8) = sz * 8 := by simp [IntKind.wrap, IntKind.bits, IntKind.signed]; omega
  rw [← hw8] at cp
  clear hw8
  unfold wv zero at *
  dsimp only at *
  go_enter Try.func9, Try.ntmps9
  go_wp2_with fail
  refine (ci.on _).mono ?_
  rintro e w1 ⟨rfl, hb1⟩
  obtain ⟨gz, hb⟩ := one_new (x := ⟨false, 0, 0⟩) hb1
  have hs := hb.size
  clear hb1
  replace gz := Lib.hid gz
  replace hb := Lib.hid hb
  go_wp2_with fail
  refine (cs.on _).mono ?_
  rintro e w2 ⟨rfl, hb2⟩
  replace gz := Lib.hid (isN_of hb2 gz.out)
  replace hb := Lib.hid (hb.out.trans (hb2.mono hs))
  clear hs hb2
  have hs := hb.out.size
  go_wp2_with fail
  refine (read_c _ _).mono ?_
  rintro e w3 ⟨rfl, rfl⟩
  have hr3 := Lib.hid (show IsR 85 (w2.alloc (.cells #[.string s, .bool false] 85)) w2.heap.size (byts s) false from by have h := IsR.new w2 85 (byts s); rwa [text_byts] at h)
  have ltz := gz.out.lt
  replace gz := Lib.hid (gz.out.alloc (.cells #[.string s, .bool false] 85))
  replace hb := Lib.hid (hb.out.alloc hs (.cells #[.string s, .bool false] 85))
  go_wp2_with fail
  refine Calls.mono (cn _ _ hr3.out) ?_
  rintro e w4 ⟨rfl, gr, hg⟩
  replace gr := Lib.hid gr
  replace gz := Lib.hid (isN_grown gz.out hg (by omega))
  replace hb := Lib.hid (hb.out.grown hg (by rw [size_alloc]; omega) (fun q hq => by rw [← Option.some.inj hq]; exact hs))
  clear hs hg hr3
  have hs := hb.out.size
  have ltr := gr.out.lt
  go_wp2_with fail
  refine (cw.on _).mono ?_
  rintro e w5 ⟨rfl, hb5⟩
  replace gz := Lib.hid (isN_of hb5 gz.out)
  replace gr := Lib.hid (isR_of hb5 gr.out)
  replace hb := Lib.hid (hb.out.trans (hb5.mono hs))
  clear hs hb5
  have hs := hb.out.size
  have hnz := gz.out.lt
  have hnr := gr.out.lt
  replace gz := Lib.hid (gz.out.alloc (oN ⟨false, 0, n⟩))
  replace gr := Lib.hid (gr.out.alloc (oN ⟨false, 0, n⟩))
  have gx := Lib.hid (IsN.new w5 ⟨false, 0, n⟩)
  replace hb := Lib.hid (hb.out.alloc hs (oN ⟨false, 0, n⟩))
  clear hs
  have hs := hb.out.size
  have hfd := field_sign nm sz true
  replace hb := Lib.hid (below_drewed hb.out)
  clear hs
  have hs := hb.out.size
  obtain ⟨cx0, cx1, cx2⟩ := gx.out.all
  dsimp only at cx0 cx1 cx2
  go_wp2_with fail
  refine wp_region_held_at (S := fun w1 => w1.cell? ⟨w5.heap.size, 0, none⟩ = some (.bool false) ∧ w1.cell? ⟨w5.heap.size, 1, none⟩ = some (.int .u64 0) ∧ w1.cell? ⟨w5.heap.size, 2, none⟩ = some (.int .u64 n)) 10 rfl (by kernel_rfl) (by go_keep) (fun hH => ?_)
  refine wpAnyH_take (i := 0) (v := ?_) rfl (by decide +kernel) (by decide +kernel) (by decide +kernel) (fun _ _ _ h => h) (Or.inl ⟨by rfl, ?_⟩) (by assumption) ?_
  rotate_left
  · intro w1 hSw; (try dsimp only at hSw); (try simp only [List.getElem_toArray, List.getElem_cons_zero]); go_simp; try with_reducible rfl
  try simp only [List.getElem_toArray, List.getElem_cons_zero, Act.put, List.setIfInBounds_toArray, List.set_cons_zero, List.set_cons_succ]
  refine wpAnyH_ready (rs := [1]) (by decide +kernel) (by simp) ?_
  refine AllReadyH.cons rfl (fun K hK => ?_) AllReadyH.nil
  (try simp only [List.getElem_toArray, List.getElem_cons_zero, List.getElem_cons_succ])
  go_simp
  refine (ca.on _).mono ?_
  rintro e wr ⟨rfl, hbr⟩
  have hb2 := Lib.hid (hb.out.trans (hbr.mono hs))
  clear hb hs
  have hb := hb2
  clear hb2
  have hs := hb.out.size
  have gg := Lib.hid (isN_of hbr gz.out)
  clear gz
  have gz := gg
  clear gg
  have gg := Lib.hid (isR_of hbr gr.out)
  clear gr
  have gr := gg
  clear gg
  have gg := Lib.hid (isN_of hbr gx.out)
  clear gx
  have gx := gg
  clear gg
  clear hH hbr cx0 cx1 cx2
  obtain ⟨cx0, cx1, cx2⟩ := gx.out.all
  dsimp only at cx0 cx1 cx2
  go_simp
  refine hK.out _ _ (by go_keep) (fun hH => ?_)
  clear hK K
  try simp only [List.getElem_toArray, List.getElem_cons_zero, List.getElem_cons_succ, Act.put, List.setIfInBounds_toArray, List.set_cons_zero, List.set_cons_succ]
  refine wpAnyH_take (i := 2) (v := ?_) rfl (by decide +kernel) (by decide +kernel) (by decide +kernel) (fun _ _ _ h => h) (Or.inl ⟨by rfl, ?_⟩) (by assumption) ?_
  rotate_left
  · intro w1 hSw; (try dsimp only at hSw); (try simp only [List.getElem_toArray, List.getElem_cons_zero, List.getElem_cons_succ]); go_simp; try with_reducible rfl
  try simp only [List.getElem_toArray, List.getElem_cons_zero, List.getElem_cons_succ, Act.put, List.setIfInBounds_toArray, List.set_cons_zero, List.set_cons_succ]
  refine wpAnyH_take (i := 3) (v := ?_) rfl (by decide +kernel) (by decide +kernel) (by decide +kernel) (fun _ _ _ h => h) (Or.inl ⟨by rfl, ?_⟩) (by assumption) ?_
  rotate_left
  · intro w1 hSw; (try dsimp only at hSw); (try simp only [List.getElem_toArray, List.getElem_cons_zero, List.getElem_cons_succ]); go_simp; try with_reducible rfl
  try simp only [List.getElem_toArray, List.getElem_cons_zero, List.getElem_cons_succ, Act.put, List.setIfInBounds_toArray, List.set_cons_zero, List.set_cons_succ]
  refine wpAnyH_take (i := 4) (v := ?_) rfl (by decide +kernel) (by decide +kernel) (by decide +kernel) (fun _ _ _ h => h) (Or.inl ⟨by rfl, ?_⟩) (by assumption) ?_
  rotate_left
  · intro w1 hSw; (try dsimp only at hSw); (try simp only [List.getElem_toArray, List.getElem_cons_zero, List.getElem_cons_succ]); go_simp; try with_reducible rfl
  try simp only [List.getElem_toArray, List.getElem_cons_zero, List.getElem_cons_succ, Act.put, List.setIfInBounds_toArray, List.set_cons_zero, List.set_cons_succ]
  refine wpAnyH_take (i := 5) (v := ?_) rfl (by decide +kernel) (by decide +kernel) (by decide +kernel) (fun _ _ _ h => h) (Or.inl ⟨by rfl, ?_⟩) (by assumption) ?_
  rotate_left
  · intro w1 hSw; (try dsimp only at hSw); (try simp only [List.getElem_toArray, List.getElem_cons_zero, List.getElem_cons_succ]); go_simp; try with_reducible rfl
  try simp only [List.getElem_toArray, List.getElem_cons_zero, List.getElem_cons_succ, Act.put, List.setIfInBounds_toArray, List.set_cons_zero, List.set_cons_succ]
  refine wpAnyH_ready (rs := [6]) (by decide +kernel) (by simp) ?_
  refine AllReadyH.cons rfl (fun K hK => ?_) AllReadyH.nil
  (try simp only [List.getElem_toArray, List.getElem_cons_zero, List.getElem_cons_succ])
  go_simp
  refine (cg.on _).mono ?_
  rintro e wr ⟨rfl, hbr⟩
  have hb2 := Lib.hid (hb.out.trans (hbr.mono hs))
  clear hb hs
  have hb := hb2
  clear hb2
  have hs := hb.out.size
  have gg := Lib.hid (isN_of hbr gz.out)
  clear gz
  have gz := gg
  clear gg
  have gg := Lib.hid (isR_of hbr gr.out)
  clear gr
  have gr := gg
  clear gg
  have gg := Lib.hid (isN_of hbr gx.out)
  clear gx
  have gx := gg
  clear gg
  clear hH hbr cx0 cx1 cx2
  obtain ⟨cx0, cx1, cx2⟩ := gx.out.all
  dsimp only at cx0 cx1 cx2
  go_simp
  refine hK.out _ _ (by go_keep) (fun hH => ?_)
  clear hK K
  try simp only [List.getElem_toArray, List.getElem_cons_zero, List.getElem_cons_succ, Act.put, List.setIfInBounds_toArray, List.set_cons_zero, List.set_cons_succ]
  refine wpAnyH_ready (rs := [7]) (by decide +kernel) (by simp) ?_
  refine AllReadyH.cons rfl (fun K hK => ?_) AllReadyH.nil
  (try simp only [List.getElem_toArray, List.getElem_cons_zero, List.getElem_cons_succ])
  go_simp
  refine (c2.on _).mono ?_
  rintro e wr ⟨rfl, hbr⟩
  have hb2 := Lib.hid (hb.out.trans (hbr.mono hs))
  clear hb hs
  have hb := hb2
  clear hb2
  have hs := hb.out.size
  have gg := Lib.hid (isN_of hbr gz.out)
  clear gz
  have gz := gg
  clear gg
  have gg := Lib.hid (isR_of hbr gr.out)
  clear gr
  have gr := gg
  clear gg
  have gg := Lib.hid (isN_of hbr gx.out)
  clear gx
  have gx := gg
  clear gg
  clear hH hbr cx0 cx1 cx2
  obtain ⟨cx0, cx1, cx2⟩ := gx.out.all
  dsimp only at cx0 cx1 cx2
  go_simp
  refine hK.out _ _ (by go_keep) (fun hH => ?_)
  clear hK K
  try simp only [List.getElem_toArray, List.getElem_cons_zero, List.getElem_cons_succ, Act.put, List.setIfInBounds_toArray, List.set_cons_zero, List.set_cons_succ]
  refine wpAnyH_take (i := 8) (v := ?_) rfl (by decide +kernel) (by decide +kernel) (by decide +kernel) (fun _ _ _ h => h) (Or.inl ⟨by rfl, ?_⟩) (by assumption) ?_
  rotate_left
  · intro w1 hSw; (try dsimp only at hSw); (try simp only [List.getElem_toArray, List.getElem_cons_zero, List.getElem_cons_succ]); go_simp; try with_reducible rfl
  try simp only [List.getElem_toArray, List.getElem_cons_zero, List.getElem_cons_succ, Act.put, List.setIfInBounds_toArray, List.set_cons_zero, List.set_cons_succ]
  refine wpAnyH_take (i := 9) (v := ?_) rfl (by decide +kernel) (by decide +kernel) (by decide +kernel) (fun _ _ _ h => h) (Or.inl ⟨by rfl, ?_⟩) (by assumption) ?_
  rotate_left
  · intro w1 hSw; (try dsimp only at hSw); (try simp only [List.getElem_toArray, List.getElem_cons_zero, List.getElem_cons_succ]); go_simp; try with_reducible rfl
  try simp only [List.getElem_toArray, List.getElem_cons_zero, List.getElem_cons_succ, Act.put, List.setIfInBounds_toArray, List.set_cons_zero, List.set_cons_succ]
  refine wpAnyH_done (by decide +kernel) ?_ _
  clear hH
  clear cx0 cx1 cx2
  go_upto_region 7 with fail
  go_cut [] (fun wx => IsN wx w.heap.size ⟨false, 0, 0⟩ ∧ IsN wx w5.heap.size ⟨Yn, Yh, Yl⟩ ∧ IsR 85 wx w2.heap.size rest bad ∧ Below w.heap.size w wx)
  case first =>
    obtain ⟨x0, x1, x2⟩ := gx.out.drew.all
    dsimp only at x0 x1 x2
    replace gx := Lib.hid gx.out.drew
    replace gz := Lib.hid gz.out.drew
    replace gr := Lib.hid gr.out.drew
    replace hb := Lib.hid (below_drewed hb.out)
    clear hs
    have hs := hb.out.size
    refine wp_region_held_at (S := fun _ => True) 10 rfl (by kernel_rfl) trivial (fun _ => ?_)
    refine wpAnyH_take (i := 1) (v := ?_) rfl (by decide +kernel) (by decide +kernel) (by decide +kernel) (fun _ _ _ h => h) (Or.inl ⟨by rfl, ?_⟩) trivial ?_
    rotate_left
    · intro w _; (try simp only [List.getElem_toArray, List.getElem_cons_zero, List.getElem_cons_succ]); go_simp; try with_reducible rfl
    try simp only [List.getElem_toArray, List.getElem_cons_zero, List.getElem_cons_succ, Act.put, List.setIfInBounds_toArray, List.set_cons_zero, List.set_cons_succ]
    refine wpAnyH_take (i := 2) (v := ?_) rfl (by decide +kernel) (by decide +kernel) (by decide +kernel) (fun _ _ _ h => h) (Or.inl ⟨by rfl, ?_⟩) trivial ?_
    rotate_left
    · intro w _; (try simp only [List.getElem_toArray, List.getElem_cons_zero, List.getElem_cons_succ]); go_simp; try with_reducible rfl
    try simp only [List.getElem_toArray, List.getElem_cons_zero, List.getElem_cons_succ, Act.put, List.setIfInBounds_toArray, List.set_cons_zero, List.set_cons_succ]
    refine wpAnyH_ready (rs := [0, 3]) (by decide +kernel) (by simp) ?_
    refine AllReadyH.cons rfl (fun K hK => ?_) ?_
    · (try simp only [List.getElem_toArray, List.getElem_cons_zero])
      go_simp
      refine hK.out _ _ trivial (fun _ => ?_)
      clear hK K
      try simp only [List.getElem_toArray, List.getElem_cons_zero, List.getElem_cons_succ, Act.put, List.setIfInBounds_toArray, List.set_cons_zero, List.set_cons_succ]
      refine wpAnyH_ready (rs := [3]) (by decide +kernel) (by simp) ?_
      refine AllReadyH.cons rfl (fun K hK => ?_) ?_
      · (try simp only [List.getElem_toArray, List.getElem_cons_zero, List.getElem_cons_succ])
        go_simp
        refine (cp.on _).mono ?_
        rintro e wq ⟨rfl, hbq⟩
        have gx9 := Lib.hid (isN_of hbq gx.out)
        have gz9 := Lib.hid (isN_of hbq gz.out)
        have gr9 := Lib.hid (isR_of hbq gr.out)
        have hb9 := Lib.hid (hb.out.trans (hbq.mono hs))
        clear gx gz gr hb hs x0 x1 x2
        have gx := gx9
        have gz := gz9
        have gr := gr9
        have hb := hb9
        clear gx9 gz9 gr9 hb9 hbq
        have hs := hb.out.size
        obtain ⟨x0, x1, x2⟩ := gx.out.all
        dsimp only at x0 x1 x2
        go_simp
        refine hK.out _ _ trivial (fun _ => ?_)
        clear hK K
        try simp only [List.getElem_toArray, List.getElem_cons_zero, List.getElem_cons_succ, Act.put, List.setIfInBounds_toArray, List.set_cons_zero, List.set_cons_succ]
        refine wpAnyH_ready (rs := [4]) (by decide +kernel) (by simp) ?_
        refine AllReadyH.cons rfl (fun K hK => ?_) ?_
        · (try simp only [List.getElem_toArray, List.getElem_cons_zero, List.getElem_cons_succ])
          go_simp
          refine (cwp.on _).mono ?_
          rintro e wq ⟨rfl, hbq⟩
          have gx9 := Lib.hid (isN_of hbq gx.out)
          have gz9 := Lib.hid (isN_of hbq gz.out)
          have gr9 := Lib.hid (isR_of hbq gr.out)
          have hb9 := Lib.hid (hb.out.trans (hbq.mono hs))
          clear gx gz gr hb hs x0 x1 x2
          have gx := gx9
          have gz := gz9
          have gr := gr9
          have hb := hb9
          clear gx9 gz9 gr9 hb9 hbq
          have hs := hb.out.size
          obtain ⟨x0, x1, x2⟩ := gx.out.all
          dsimp only at x0 x1 x2
          go_simp
          refine hK.out _ _ trivial (fun _ => ?_)
          clear hK K
          try simp only [List.getElem_toArray, List.getElem_cons_zero, List.getElem_cons_succ, Act.put, List.setIfInBounds_toArray, List.set_cons_zero, List.set_cons_succ]
          refine wpAnyH_ready (rs := [5]) (by decide +kernel) (by simp) ?_
          refine AllReadyH.cons rfl (fun K hK => ?_) ?_
          · (try simp only [List.getElem_toArray, List.getElem_cons_zero, List.getElem_cons_succ])
            go_simp
            refine (cs1.on _).mono ?_
            rintro e wq ⟨rfl, hbq⟩
            have gx9 := Lib.hid (isN_of hbq gx.out)
            have gz9 := Lib.hid (isN_of hbq gz.out)
            have gr9 := Lib.hid (isR_of hbq gr.out)
            have hb9 := Lib.hid (hb.out.trans (hbq.mono hs))
            clear gx gz gr hb hs x0 x1 x2
            have gx := gx9
            have gz := gz9
            have gr := gr9
            have hb := hb9
            clear gx9 gz9 gr9 hb9 hbq
            have hs := hb.out.size
            obtain ⟨x0, x1, x2⟩ := gx.out.all
            dsimp only at x0 x1 x2
            have xf := gx.out.f
            have gx8 := Lib.hid (gx.out.set Yn Yh Yl)
            have gz8 := Lib.hid (gz.out.set3_other (c := w5.heap.size) (v0 := .bool Yn) (v1 := .int .u64 Yh) (v2 := .int .u64 Yl) (by omega))
            have gr8 := Lib.hid (gr.out.set3_other (c := w5.heap.size) (v0 := .bool Yn) (v1 := .int .u64 Yh) (v2 := .int .u64 Yl) (by omega))
            have hb8 := Lib.hid (below_set3 hb.out (b := w5.heap.size) (by omega) (.bool Yn) (.int .u64 Yh) (.int .u64 Yl))
            clear gx gz gr hb hs
            go_simp
            refine hK.out _ _ trivial (fun _ => ?_)
            clear hK K
            try simp only [List.getElem_toArray, List.getElem_cons_zero, List.getElem_cons_succ, Act.put, List.setIfInBounds_toArray, List.set_cons_zero, List.set_cons_succ]
            refine wpAnyH_take (i := 6) (v := ?_) rfl (by decide +kernel) (by decide +kernel) (by decide +kernel) (fun _ _ _ h => h) (Or.inl ⟨by rfl, ?_⟩) trivial ?_
            rotate_left
            · intro w _; (try simp only [List.getElem_toArray, List.getElem_cons_zero, List.getElem_cons_succ]); go_simp; try with_reducible rfl
            try simp only [List.getElem_toArray, List.getElem_cons_zero, List.getElem_cons_succ, Act.put, List.setIfInBounds_toArray, List.set_cons_zero, List.set_cons_succ]
            refine wpAnyH_take (i := 7) (v := ?_) rfl (by decide +kernel) (by decide +kernel) (by decide +kernel) (fun _ _ _ h => h) (Or.inl ⟨by rfl, ?_⟩) trivial ?_
            rotate_left
            · intro w _; (try simp only [List.getElem_toArray, List.getElem_cons_zero, List.getElem_cons_succ]); go_simp; try with_reducible rfl
            try simp only [List.getElem_toArray, List.getElem_cons_zero, List.getElem_cons_succ, Act.put, List.setIfInBounds_toArray, List.set_cons_zero, List.set_cons_succ]
            refine wpAnyH_take (i := 8) (v := ?_) rfl (by decide +kernel) (by decide +kernel) (by decide +kernel) (fun _ _ _ h => h) (Or.inl ⟨by rfl, ?_⟩) trivial ?_
            rotate_left
            · intro w _; (try simp only [List.getElem_toArray, List.getElem_cons_zero, List.getElem_cons_succ]); go_simp; try with_reducible rfl
            try simp only [List.getElem_toArray, List.getElem_cons_zero, List.getElem_cons_succ, Act.put, List.setIfInBounds_toArray, List.set_cons_zero, List.set_cons_succ]
            refine wpAnyH_ready (rs := [9]) (by decide +kernel) (by simp) ?_
            refine AllReadyH.cons rfl (fun K hK => ?_) ?_
            · (try simp only [List.getElem_toArray, List.getElem_cons_zero, List.getElem_cons_succ])
              go_simp
              refine hK.out _ _ trivial (fun _ => ?_)
              clear hK K
              try simp only [List.getElem_toArray, List.getElem_cons_zero, List.getElem_cons_succ, Act.put, List.setIfInBounds_toArray, List.set_cons_zero, List.set_cons_succ]
              refine wpAnyH_done (by decide +kernel) ?_ _
              go_wp2_with fail
              go_meet
              exact ⟨gz8.out, gx8.out, gr8.out, hb8.out⟩
            exact AllReadyH.nil
          exact AllReadyH.nil
        exact AllReadyH.nil
      exact AllReadyH.nil
    refine AllReadyH.cons rfl (fun K hK => ?_) ?_
    · (try simp only [List.getElem_toArray, List.getElem_cons_zero, List.getElem_cons_succ])
      go_simp
      refine (cp.on _).mono ?_
      rintro e wq ⟨rfl, hbq⟩
      have gx9 := Lib.hid (isN_of hbq gx.out)
      have gz9 := Lib.hid (isN_of hbq gz.out)
      have gr9 := Lib.hid (isR_of hbq gr.out)
      have hb9 := Lib.hid (hb.out.trans (hbq.mono hs))
      clear gx gz gr hb hs x0 x1 x2
      have gx := gx9
      have gz := gz9
      have gr := gr9
      have hb := hb9
      clear gx9 gz9 gr9 hb9 hbq
      have hs := hb.out.size
      obtain ⟨x0, x1, x2⟩ := gx.out.all
      dsimp only at x0 x1 x2
      go_simp
      refine hK.out _ _ trivial (fun _ => ?_)
      clear hK K
      try simp only [List.getElem_toArray, List.getElem_cons_zero, List.getElem_cons_succ, Act.put, List.setIfInBounds_toArray, List.set_cons_zero, List.set_cons_succ]
      refine wpAnyH_ready (rs := [0, 4]) (by decide +kernel) (by simp) ?_
      refine AllReadyH.cons rfl (fun K hK => ?_) ?_
      · (try simp only [List.getElem_toArray, List.getElem_cons_zero])
        go_simp
        refine hK.out _ _ trivial (fun _ => ?_)
        clear hK K
        try simp only [List.getElem_toArray, List.getElem_cons_zero, List.getElem_cons_succ, Act.put, List.setIfInBounds_toArray, List.set_cons_zero, List.set_cons_succ]
        refine wpAnyH_ready (rs := [4]) (by decide +kernel) (by simp) ?_
        refine AllReadyH.cons rfl (fun K hK => ?_) ?_
        · (try simp only [List.getElem_toArray, List.getElem_cons_zero, List.getElem_cons_succ])
          go_simp
          refine (cwp.on _).mono ?_
          rintro e wq ⟨rfl, hbq⟩
          have gx9 := Lib.hid (isN_of hbq gx.out)
          have gz9 := Lib.hid (isN_of hbq gz.out)
          have gr9 := Lib.hid (isR_of hbq gr.out)
          have hb9 := Lib.hid (hb.out.trans (hbq.mono hs))
          clear gx gz gr hb hs x0 x1 x2
          have gx := gx9
          have gz := gz9
          have gr := gr9
          have hb := hb9
          clear gx9 gz9 gr9 hb9 hbq
          have hs := hb.out.size
          obtain ⟨x0, x1, x2⟩ := gx.out.all
          dsimp only at x0 x1 x2
          go_simp
          refine hK.out _ _ trivial (fun _ => ?_)
          clear hK K
          try simp only [List.getElem_toArray, List.getElem_cons_zero, List.getElem_cons_succ, Act.put, List.setIfInBounds_toArray, List.set_cons_zero, List.set_cons_succ]
          refine wpAnyH_ready (rs := [5]) (by decide +kernel) (by simp) ?_
          refine AllReadyH.cons rfl (fun K hK => ?_) ?_
          · (try simp only [List.getElem_toArray, List.getElem_cons_zero, List.getElem_cons_succ])
            go_simp
            refine (cs1.on _).mono ?_
            rintro e wq ⟨rfl, hbq⟩
            have gx9 := Lib.hid (isN_of hbq gx.out)
            have gz9 := Lib.hid (isN_of hbq gz.out)
            have gr9 := Lib.hid (isR_of hbq gr.out)
            have hb9 := Lib.hid (hb.out.trans (hbq.mono hs))
            clear gx gz gr hb hs x0 x1 x2
            have gx := gx9
            have gz := gz9
            have gr := gr9
            have hb := hb9
            clear gx9 gz9 gr9 hb9 hbq
            have hs := hb.out.size
            obtain ⟨x0, x1, x2⟩ := gx.out.all
            dsimp only at x0 x1 x2
            have xf := gx.out.f
            have gx8 := Lib.hid (gx.out.set Yn Yh Yl)
            have gz8 := Lib.hid (gz.out.set3_other (c := w5.heap.size) (v0 := .bool Yn) (v1 := .int .u64 Yh) (v2 := .int .u64 Yl) (by omega))
            have gr8 := Lib.hid (gr.out.set3_other (c := w5.heap.size) (v0 := .bool Yn) (v1 := .int .u64 Yh) (v2 := .int .u64 Yl) (by omega))
            have hb8 := Lib.hid (below_set3 hb.out (b := w5.heap.size) (by omega) (.bool Yn) (.int .u64 Yh) (.int .u64 Yl))
            clear gx gz gr hb hs
            go_simp
            refine hK.out _ _ trivial (fun _ => ?_)
            clear hK K
            try simp only [List.getElem_toArray, List.getElem_cons_zero, List.getElem_cons_succ, Act.put, List.setIfInBounds_toArray, List.set_cons_zero, List.set_cons_succ]
            refine wpAnyH_take (i := 6) (v := ?_) rfl (by decide +kernel) (by decide +kernel) (by decide +kernel) (fun _ _ _ h => h) (Or.inl ⟨by rfl, ?_⟩) trivial ?_
            rotate_left
            · intro w _; (try simp only [List.getElem_toArray, List.getElem_cons_zero, List.getElem_cons_succ]); go_simp; try with_reducible rfl
            try simp only [List.getElem_toArray, List.getElem_cons_zero, List.getElem_cons_succ, Act.put, List.setIfInBounds_toArray, List.set_cons_zero, List.set_cons_succ]
            refine wpAnyH_take (i := 7) (v := ?_) rfl (by decide +kernel) (by decide +kernel) (by decide +kernel) (fun _ _ _ h => h) (Or.inl ⟨by rfl, ?_⟩) trivial ?_
            rotate_left
            · intro w _; (try simp only [List.getElem_toArray, List.getElem_cons_zero, List.getElem_cons_succ]); go_simp; try with_reducible rfl
            try simp only [List.getElem_toArray, List.getElem_cons_zero, List.getElem_cons_succ, Act.put, List.setIfInBounds_toArray, List.set_cons_zero, List.set_cons_succ]
            refine wpAnyH_take (i := 8) (v := ?_) rfl (by decide +kernel) (by decide +kernel) (by decide +kernel) (fun _ _ _ h => h) (Or.inl ⟨by rfl, ?_⟩) trivial ?_
            rotate_left
            · intro w _; (try simp only [List.getElem_toArray, List.getElem_cons_zero, List.getElem_cons_succ]); go_simp; try with_reducible rfl
            try simp only [List.getElem_toArray, List.getElem_cons_zero, List.getElem_cons_succ, Act.put, List.setIfInBounds_toArray, List.set_cons_zero, List.set_cons_succ]
            refine wpAnyH_ready (rs := [9]) (by decide +kernel) (by simp) ?_
            refine AllReadyH.cons rfl (fun K hK => ?_) ?_
            · (try simp only [List.getElem_toArray, List.getElem_cons_zero, List.getElem_cons_succ])
              go_simp
              refine hK.out _ _ trivial (fun _ => ?_)
              clear hK K
              try simp only [List.getElem_toArray, List.getElem_cons_zero, List.getElem_cons_succ, Act.put, List.setIfInBounds_toArray, List.set_cons_zero, List.set_cons_succ]
              refine wpAnyH_done (by decide +kernel) ?_ _
              go_wp2_with fail
              go_meet
              exact ⟨gz8.out, gx8.out, gr8.out, hb8.out⟩
            exact AllReadyH.nil
          exact AllReadyH.nil
        exact AllReadyH.nil
      refine AllReadyH.cons rfl (fun K hK => ?_) ?_
      · (try simp only [List.getElem_toArray, List.getElem_cons_zero, List.getElem_cons_succ])
        go_simp
        refine (cwp.on _).mono ?_
        rintro e wq ⟨rfl, hbq⟩
        have gx9 := Lib.hid (isN_of hbq gx.out)
        have gz9 := Lib.hid (isN_of hbq gz.out)
        have gr9 := Lib.hid (isR_of hbq gr.out)
        have hb9 := Lib.hid (hb.out.trans (hbq.mono hs))
        clear gx gz gr hb hs x0 x1 x2
        have gx := gx9
        have gz := gz9
        have gr := gr9
        have hb := hb9
        clear gx9 gz9 gr9 hb9 hbq
        have hs := hb.out.size
        obtain ⟨x0, x1, x2⟩ := gx.out.all
        dsimp only at x0 x1 x2
        go_simp
        refine hK.out _ _ trivial (fun _ => ?_)
        clear hK K
        try simp only [List.getElem_toArray, List.getElem_cons_zero, List.getElem_cons_succ, Act.put, List.setIfInBounds_toArray, List.set_cons_zero, List.set_cons_succ]
        refine wpAnyH_ready (rs := [0]) (by decide +kernel) (by simp) ?_
        refine AllReadyH.cons rfl (fun K hK => ?_) ?_
        · (try simp only [List.getElem_toArray, List.getElem_cons_zero])
          go_simp
          refine hK.out _ _ trivial (fun _ => ?_)
          clear hK K
          try simp only [List.getElem_toArray, List.getElem_cons_zero, List.getElem_cons_succ, Act.put, List.setIfInBounds_toArray, List.set_cons_zero, List.set_cons_succ]
          refine wpAnyH_ready (rs := [5]) (by decide +kernel) (by simp) ?_
          refine AllReadyH.cons rfl (fun K hK => ?_) ?_
          · (try simp only [List.getElem_toArray, List.getElem_cons_zero, List.getElem_cons_succ])
            go_simp
            refine (cs1.on _).mono ?_
            rintro e wq ⟨rfl, hbq⟩
            have gx9 := Lib.hid (isN_of hbq gx.out)
            have gz9 := Lib.hid (isN_of hbq gz.out)
            have gr9 := Lib.hid (isR_of hbq gr.out)
            have hb9 := Lib.hid (hb.out.trans (hbq.mono hs))
            clear gx gz gr hb hs x0 x1 x2
            have gx := gx9
            have gz := gz9
            have gr := gr9
            have hb := hb9
            clear gx9 gz9 gr9 hb9 hbq
            have hs := hb.out.size
            obtain ⟨x0, x1, x2⟩ := gx.out.all
            dsimp only at x0 x1 x2
            have xf := gx.out.f
            have gx8 := Lib.hid (gx.out.set Yn Yh Yl)
            have gz8 := Lib.hid (gz.out.set3_other (c := w5.heap.size) (v0 := .bool Yn) (v1 := .int .u64 Yh) (v2 := .int .u64 Yl) (by omega))
            have gr8 := Lib.hid (gr.out.set3_other (c := w5.heap.size) (v0 := .bool Yn) (v1 := .int .u64 Yh) (v2 := .int .u64 Yl) (by omega))
            have hb8 := Lib.hid (below_set3 hb.out (b := w5.heap.size) (by omega) (.bool Yn) (.int .u64 Yh) (.int .u64 Yl))
            clear gx gz gr hb hs
            go_simp
            refine hK.out _ _ trivial (fun _ => ?_)
            clear hK K
            try simp only [List.getElem_toArray, List.getElem_cons_zero, List.getElem_cons_succ, Act.put, List.setIfInBounds_toArray, List.set_cons_zero, List.set_cons_succ]
            refine wpAnyH_take (i := 6) (v := ?_) rfl (by decide +kernel) (by decide +kernel) (by decide +kernel) (fun _ _ _ h => h) (Or.inl ⟨by rfl, ?_⟩) trivial ?_
            rotate_left
            · intro w _; (try simp only [List.getElem_toArray, List.getElem_cons_zero, List.getElem_cons_succ]); go_simp; try with_reducible rfl
            try simp only [List.getElem_toArray, List.getElem_cons_zero, List.getElem_cons_succ, Act.put, List.setIfInBounds_toArray, List.set_cons_zero, List.set_cons_succ]
            refine wpAnyH_take (i := 7) (v := ?_) rfl (by decide +kernel) (by decide +kernel) (by decide +kernel) (fun _ _ _ h => h) (Or.inl ⟨by rfl, ?_⟩) trivial ?_
            rotate_left
            · intro w _; (try simp only [List.getElem_toArray, List.getElem_cons_zero, List.getElem_cons_succ]); go_simp; try with_reducible rfl
            try simp only [List.getElem_toArray, List.getElem_cons_zero, List.getElem_cons_succ, Act.put, List.setIfInBounds_toArray, List.set_cons_zero, List.set_cons_succ]
            refine wpAnyH_take (i := 8) (v := ?_) rfl (by decide +kernel) (by decide +kernel) (by decide +kernel) (fun _ _ _ h => h) (Or.inl ⟨by rfl, ?_⟩) trivial ?_
            rotate_left
            · intro w _; (try simp only [List.getElem_toArray, List.getElem_cons_zero, List.getElem_cons_succ]); go_simp; try with_reducible rfl
            try simp only [List.getElem_toArray, List.getElem_cons_zero, List.getElem_cons_succ, Act.put, List.setIfInBounds_toArray, List.set_cons_zero, List.set_cons_succ]
            refine wpAnyH_ready (rs := [9]) (by decide +kernel) (by simp) ?_
            refine AllReadyH.cons rfl (fun K hK => ?_) ?_
            · (try simp only [List.getElem_toArray, List.getElem_cons_zero, List.getElem_cons_succ])
              go_simp
              refine hK.out _ _ trivial (fun _ => ?_)
              clear hK K
              try simp only [List.getElem_toArray, List.getElem_cons_zero, List.getElem_cons_succ, Act.put, List.setIfInBounds_toArray, List.set_cons_zero, List.set_cons_succ]
              refine wpAnyH_done (by decide +kernel) ?_ _
              go_wp2_with fail
              go_meet
              exact ⟨gz8.out, gx8.out, gr8.out, hb8.out⟩
            exact AllReadyH.nil
          exact AllReadyH.nil
        exact AllReadyH.nil
      exact AllReadyH.nil
    exact AllReadyH.nil
  obtain ⟨gz0, gx0, gr0, hb0⟩ := hcut
  clear gx gz gr hb hs
  have gz := Lib.hid gz0
  have gx := Lib.hid gx0
  have gr := Lib.hid gr0
  have hb := Lib.hid hb0
  clear gz0 gx0 gr0 hb0
  have hs := hb.out.size
  go_upto_region 8 with fail
  go_cut [] (fun wx => IsN wx w.heap.size ⟨false, 0, 0⟩ ∧ IsN wx w5.heap.size ⟨Zn, Zh, Zl⟩ ∧ IsR 85 wx w2.heap.size rest bad ∧ Below w.heap.size w wx)
  case first =>
    obtain ⟨x0, x1, x2⟩ := gx.out.drew.all
    dsimp only at x0 x1 x2
    replace gx := Lib.hid gx.out.drew
    replace gz := Lib.hid gz.out.drew
    replace gr := Lib.hid gr.out.drew
    replace hb := Lib.hid (below_drewed hb.out)
    clear hs
    have hs := hb.out.size
    refine wp_region_held_at (S := fun _ => True) 7 rfl (by kernel_rfl) trivial (fun _ => ?_)
    refine wpAnyH_ready (rs := [0, 1]) (by decide +kernel) (by simp) ?_
    refine AllReadyH.cons rfl (fun K hK => ?_) ?_
    · (try simp only [List.getElem_toArray, List.getElem_cons_zero])
      go_simp
      refine hK.out _ _ trivial (fun _ => ?_)
      clear hK K
      try simp only [List.getElem_toArray, List.getElem_cons_zero, List.getElem_cons_succ, Act.put, List.setIfInBounds_toArray, List.set_cons_zero, List.set_cons_succ]
      refine wpAnyH_ready (rs := [1]) (by decide +kernel) (by simp) ?_
      refine AllReadyH.cons rfl (fun K hK => ?_) ?_
      · (try simp only [List.getElem_toArray, List.getElem_cons_zero, List.getElem_cons_succ])
        go_simp
        refine (c1.on _).mono ?_
        rintro e wq ⟨rfl, hbq⟩
        have gx9 := Lib.hid (isN_of hbq gx.out)
        have gz9 := Lib.hid (isN_of hbq gz.out)
        have gr9 := Lib.hid (isR_of hbq gr.out)
        have hb9 := Lib.hid (hb.out.trans (hbq.mono hs))
        clear gx gz gr hb hs x0 x1 x2
        have gx := gx9
        have gz := gz9
        have gr := gr9
        have hb := hb9
        clear gx9 gz9 gr9 hb9 hbq
        have hs := hb.out.size
        obtain ⟨x0, x1, x2⟩ := gx.out.all
        dsimp only at x0 x1 x2
        go_simp
        refine hK.out _ _ trivial (fun _ => ?_)
        clear hK K
        try simp only [List.getElem_toArray, List.getElem_cons_zero, List.getElem_cons_succ, Act.put, List.setIfInBounds_toArray, List.set_cons_zero, List.set_cons_succ]
        refine wpAnyH_ready (rs := [2]) (by decide +kernel) (by simp) ?_
        refine AllReadyH.cons rfl (fun K hK => ?_) ?_
        · (try simp only [List.getElem_toArray, List.getElem_cons_zero, List.getElem_cons_succ])
          go_simp
          refine (cs2.on _).mono ?_
          rintro e wq ⟨rfl, hbq⟩
          have gx9 := Lib.hid (isN_of hbq gx.out)
          have gz9 := Lib.hid (isN_of hbq gz.out)
          have gr9 := Lib.hid (isR_of hbq gr.out)
          have hb9 := Lib.hid (hb.out.trans (hbq.mono hs))
          clear gx gz gr hb hs x0 x1 x2
          have gx := gx9
          have gz := gz9
          have gr := gr9
          have hb := hb9
          clear gx9 gz9 gr9 hb9 hbq
          have hs := hb.out.size
          obtain ⟨x0, x1, x2⟩ := gx.out.all
          dsimp only at x0 x1 x2
          have xf := gx.out.f
          have gx8 := Lib.hid (gx.out.set Zn Zh Zl)
          have gz8 := Lib.hid (gz.out.set3_other (c := w5.heap.size) (v0 := .bool Zn) (v1 := .int .u64 Zh) (v2 := .int .u64 Zl) (by omega))
          have gr8 := Lib.hid (gr.out.set3_other (c := w5.heap.size) (v0 := .bool Zn) (v1 := .int .u64 Zh) (v2 := .int .u64 Zl) (by omega))
          have hb8 := Lib.hid (below_set3 hb.out (b := w5.heap.size) (by omega) (.bool Zn) (.int .u64 Zh) (.int .u64 Zl))
          clear gx gz gr hb hs
          go_simp
          refine hK.out _ _ trivial (fun _ => ?_)
          clear hK K
          try simp only [List.getElem_toArray, List.getElem_cons_zero, List.getElem_cons_succ, Act.put, List.setIfInBounds_toArray, List.set_cons_zero, List.set_cons_succ]
          refine wpAnyH_take (i := 3) (v := ?_) rfl (by decide +kernel) (by decide +kernel) (by decide +kernel) (fun _ _ _ h => h) (Or.inl ⟨by rfl, ?_⟩) trivial ?_
          rotate_left
          · intro w _; (try simp only [List.getElem_toArray, List.getElem_cons_zero, List.getElem_cons_succ]); go_simp; try with_reducible rfl
          try simp only [List.getElem_toArray, List.getElem_cons_zero, List.getElem_cons_succ, Act.put, List.setIfInBounds_toArray, List.set_cons_zero, List.set_cons_succ]
          refine wpAnyH_take (i := 4) (v := ?_) rfl (by decide +kernel) (by decide +kernel) (by decide +kernel) (fun _ _ _ h => h) (Or.inl ⟨by rfl, ?_⟩) trivial ?_
          rotate_left
          · intro w _; (try simp only [List.getElem_toArray, List.getElem_cons_zero, List.getElem_cons_succ]); go_simp; try with_reducible rfl
          try simp only [List.getElem_toArray, List.getElem_cons_zero, List.getElem_cons_succ, Act.put, List.setIfInBounds_toArray, List.set_cons_zero, List.set_cons_succ]
          refine wpAnyH_take (i := 5) (v := ?_) rfl (by decide +kernel) (by decide +kernel) (by decide +kernel) (fun _ _ _ h => h) (Or.inl ⟨by rfl, ?_⟩) trivial ?_
          rotate_left
          · intro w _; (try simp only [List.getElem_toArray, List.getElem_cons_zero, List.getElem_cons_succ]); go_simp; try with_reducible rfl
          try simp only [List.getElem_toArray, List.getElem_cons_zero, List.getElem_cons_succ, Act.put, List.setIfInBounds_toArray, List.set_cons_zero, List.set_cons_succ]
          refine wpAnyH_ready (rs := [6]) (by decide +kernel) (by simp) ?_
          refine AllReadyH.cons rfl (fun K hK => ?_) ?_
          · (try simp only [List.getElem_toArray, List.getElem_cons_zero, List.getElem_cons_succ])
            go_simp
            refine hK.out _ _ trivial (fun _ => ?_)
            clear hK K
            try simp only [List.getElem_toArray, List.getElem_cons_zero, List.getElem_cons_succ, Act.put, List.setIfInBounds_toArray, List.set_cons_zero, List.set_cons_succ]
            refine wpAnyH_done (by decide +kernel) ?_ _
            go_wp2_with fail
            go_meet
            exact ⟨gz8.out, gx8.out, gr8.out, hb8.out⟩
          exact AllReadyH.nil
        exact AllReadyH.nil
      exact AllReadyH.nil
    refine AllReadyH.cons rfl (fun K hK => ?_) ?_
    · (try simp only [List.getElem_toArray, List.getElem_cons_zero, List.getElem_cons_succ])
      go_simp
      refine (c1.on _).mono ?_
      rintro e wq ⟨rfl, hbq⟩
      have gx9 := Lib.hid (isN_of hbq gx.out)
      have gz9 := Lib.hid (isN_of hbq gz.out)
      have gr9 := Lib.hid (isR_of hbq gr.out)
      have hb9 := Lib.hid (hb.out.trans (hbq.mono hs))
      clear gx gz gr hb hs x0 x1 x2
      have gx := gx9
      have gz := gz9
      have gr := gr9
      have hb := hb9
      clear gx9 gz9 gr9 hb9 hbq
      have hs := hb.out.size
      obtain ⟨x0, x1, x2⟩ := gx.out.all
      dsimp only at x0 x1 x2
      go_simp
      refine hK.out _ _ trivial (fun _ => ?_)
      clear hK K
      try simp only [List.getElem_toArray, List.getElem_cons_zero, List.getElem_cons_succ, Act.put, List.setIfInBounds_toArray, List.set_cons_zero, List.set_cons_succ]
      refine wpAnyH_ready (rs := [0]) (by decide +kernel) (by simp) ?_
      refine AllReadyH.cons rfl (fun K hK => ?_) ?_
      · (try simp only [List.getElem_toArray, List.getElem_cons_zero])
        go_simp
        refine hK.out _ _ trivial (fun _ => ?_)
        clear hK K
        try simp only [List.getElem_toArray, List.getElem_cons_zero, List.getElem_cons_succ, Act.put, List.setIfInBounds_toArray, List.set_cons_zero, List.set_cons_succ]
        refine wpAnyH_ready (rs := [2]) (by decide +kernel) (by simp) ?_
        refine AllReadyH.cons rfl (fun K hK => ?_) ?_
        · (try simp only [List.getElem_toArray, List.getElem_cons_zero, List.getElem_cons_succ])
          go_simp
          refine (cs2.on _).mono ?_
          rintro e wq ⟨rfl, hbq⟩
          have gx9 := Lib.hid (isN_of hbq gx.out)
          have gz9 := Lib.hid (isN_of hbq gz.out)
          have gr9 := Lib.hid (isR_of hbq gr.out)
          have hb9 := Lib.hid (hb.out.trans (hbq.mono hs))
          clear gx gz gr hb hs x0 x1 x2
          have gx := gx9
          have gz := gz9
          have gr := gr9
          have hb := hb9
          clear gx9 gz9 gr9 hb9 hbq
          have hs := hb.out.size
          obtain ⟨x0, x1, x2⟩ := gx.out.all
          dsimp only at x0 x1 x2
          have xf := gx.out.f
          have gx8 := Lib.hid (gx.out.set Zn Zh Zl)
          have gz8 := Lib.hid (gz.out.set3_other (c := w5.heap.size) (v0 := .bool Zn) (v1 := .int .u64 Zh) (v2 := .int .u64 Zl) (by omega))
          have gr8 := Lib.hid (gr.out.set3_other (c := w5.heap.size) (v0 := .bool Zn) (v1 := .int .u64 Zh) (v2 := .int .u64 Zl) (by omega))
          have hb8 := Lib.hid (below_set3 hb.out (b := w5.heap.size) (by omega) (.bool Zn) (.int .u64 Zh) (.int .u64 Zl))
          clear gx gz gr hb hs
          go_simp
          refine hK.out _ _ trivial (fun _ => ?_)
          clear hK K
          try simp only [List.getElem_toArray, List.getElem_cons_zero, List.getElem_cons_succ, Act.put, List.setIfInBounds_toArray, List.set_cons_zero, List.set_cons_succ]
          refine wpAnyH_take (i := 3) (v := ?_) rfl (by decide +kernel) (by decide +kernel) (by decide +kernel) (fun _ _ _ h => h) (Or.inl ⟨by rfl, ?_⟩) trivial ?_
          rotate_left
          · intro w _; (try simp only [List.getElem_toArray, List.getElem_cons_zero, List.getElem_cons_succ]); go_simp; try with_reducible rfl
          try simp only [List.getElem_toArray, List.getElem_cons_zero, List.getElem_cons_succ, Act.put, List.setIfInBounds_toArray, List.set_cons_zero, List.set_cons_succ]
          refine wpAnyH_take (i := 4) (v := ?_) rfl (by decide +kernel) (by decide +kernel) (by decide +kernel) (fun _ _ _ h => h) (Or.inl ⟨by rfl, ?_⟩) trivial ?_
          rotate_left
          · intro w _; (try simp only [List.getElem_toArray, List.getElem_cons_zero, List.getElem_cons_succ]); go_simp; try with_reducible rfl
          try simp only [List.getElem_toArray, List.getElem_cons_zero, List.getElem_cons_succ, Act.put, List.setIfInBounds_toArray, List.set_cons_zero, List.set_cons_succ]
          refine wpAnyH_take (i := 5) (v := ?_) rfl (by decide +kernel) (by decide +kernel) (by decide +kernel) (fun _ _ _ h => h) (Or.inl ⟨by rfl, ?_⟩) trivial ?_
          rotate_left
          · intro w _; (try simp only [List.getElem_toArray, List.getElem_cons_zero, List.getElem_cons_succ]); go_simp; try with_reducible rfl
          try simp only [List.getElem_toArray, List.getElem_cons_zero, List.getElem_cons_succ, Act.put, List.setIfInBounds_toArray, List.set_cons_zero, List.set_cons_succ]
          refine wpAnyH_ready (rs := [6]) (by decide +kernel) (by simp) ?_
          refine AllReadyH.cons rfl (fun K hK => ?_) ?_
          · (try simp only [List.getElem_toArray, List.getElem_cons_zero, List.getElem_cons_succ])
            go_simp
            refine hK.out _ _ trivial (fun _ => ?_)
            clear hK K
            try simp only [List.getElem_toArray, List.getElem_cons_zero, List.getElem_cons_succ, Act.put, List.setIfInBounds_toArray, List.set_cons_zero, List.set_cons_succ]
            refine wpAnyH_done (by decide +kernel) ?_ _
            go_wp2_with fail
            go_meet
            exact ⟨gz8.out, gx8.out, gr8.out, hb8.out⟩
          exact AllReadyH.nil
        exact AllReadyH.nil
      exact AllReadyH.nil
    exact AllReadyH.nil
  obtain ⟨gz0, gx0, gr0, hb0⟩ := hcut
  clear gx gz gr hb hs
  have gz := Lib.hid gz0
  have gx := Lib.hid gx0
  have gr := Lib.hid gr0
  have hb := Lib.hid hb0
  clear gz0 gx0 gr0 hb0
  have hs := hb.out.size
  obtain ⟨cx0, cx1, cx2⟩ := gx.out.all
  dsimp only at cx0 cx1 cx2
  go_wp2_with fail
  refine (cd _ _ gr.out).on.mono ?_
  rintro e w9 ⟨rfl, rfl⟩
  clear cx0 cx1 cx2
  obtain ⟨z0, z1, z2⟩ := gz.out.all
  have zf := gz.out.f
  obtain ⟨r0, r1, r2, hfin⟩ := last_set (w := w) (B := w.heap.size) gz.out ⟨false, 0, 0⟩ hb.out (by omega)
  dsimp only at r0 r1 r2 z0 z1 z2 hfin
  replace hfin := Lib.hid hfin
  clear gz gx gr hb
  go_wp2_with fail
  (try simp only [Exit.inBlock, Exit.then])
  refine bodyPost_ret (by simp [results, Try.results9, go_sem, r0, r1, r2]; try rfl) rfl ?_
  exact ⟨rfl, hfin.out⟩

set_option maxRecDepth 100000 in
set_option maxHeartbeats 8000000 in
theorem get_M1 (k sz n : Int) (s nm : ByteArray) (rest : List UInt8) (bad : Bool) (G : WI) (u : Int) (P ye ze : Int) (Y Z : WI) (ci : Ret 32 #[.int .i64 k] (.bool true)) (cs : Ret 15 #[.int .i64 k] (.int .i64 sz))
    (cn : ∀ (w : World) (b : Nat), IsR 85 w b (byts s) false → Answers 35 #[.pointer (some ⟨b, 0, none⟩), .int .i64 sz] (.int .u64 n) 85 w b rest bad)
    (cw : Ret 34 #[.int .u64 n] (wv ⟨false, 0, n⟩)) (ca : Ret 36 #[.int .i64 k] (.agg #[.string nm, .int .i64 sz, .bool true]))
    (cd : ∀ (w : World) (b : Nat), IsR 85 w b rest bad → Quiet 38 #[.pointer (some ⟨b, 0, none⟩)] (.bool true) w)
    (cf : Ret 21 #[.int .i64 k, wv Z] (.bool false)) (cg : Ret 18 #[.int .i64 k] (wv G)) (c2 : Ret 30 #[wv ⟨false, 0, n⟩, wv G] (.int .i64 u)) (d1 : decide (0 < u) = true) (hz0 : 0 ≤ sz) (hz1 : sz ≤ 8) (cp : Ret 37 #[.int .i64 (sz * 8)] (.int .u64 P)) (cwp : Ret 34 #[.int .u64 P] (wv ⟨false, 0, P⟩))
    (cs1 : Ret 28 #[wv ⟨false, 0, n⟩, wv ⟨false, 0, P⟩] (.tuple #[wv Y, .int .i64 ye])) (c1 : Ret 27 #[.int .i64 1] (wv ⟨false, 0, 1⟩))
    (cs2 : Ret 28 #[wv Y, wv ⟨false, 0, 1⟩] (.tuple #[wv Z, .int .i64 ze])) (w : World) :
    Calls Try.prog 9 #[.int .i64 k, .string s] w fun e w' => e = .returned (.tuple #[wv zero, .int .i64 4]) ∧ Below w.heap.size w w' := by
  obtain ⟨Gn, Gh, Gl⟩ := G
  obtain ⟨Yn, Yh, Yl⟩ := Y
  obtain ⟨Zn, Zh, Zl⟩ := Z
  have hw8 : IntKind.i64.wrap (sz * 8) = sz * 8 := by simp [IntKind.wrap, IntKind.bits, IntKind.signed]; omega
  rw [← hw8] at cp
  clear hw8
  unfold wv zero at *
  dsimp only at *
  go_enter Try.func9, Try.ntmps9
  go_wp2_with fail
  refine (ci.on _).mono ?_
  rintro e w1 ⟨rfl, hb1⟩
  obtain ⟨gz, hb⟩ := one_new (x := ⟨false, 0, 0⟩) hb1
  have hs := hb.size
  clear hb1
  replace gz := Lib.hid gz
  replace hb := Lib.hid hb
  go_wp2_with fail
  refine (cs.on _).mono ?_
  rintro e w2 ⟨rfl, hb2⟩
  replace gz := Lib.hid (isN_of hb2 gz.out)
  replace hb := Lib.hid (hb.out.trans (hb2.mono hs))
  clear hs hb2
  have hs := hb.out.size
  go_wp2_with fail
  refine (read_c _ _).mono ?_
  rintro e w3 ⟨rfl, rfl⟩
  have hr3 := Lib.hid (show IsR 85 (w2.alloc (.cells #[.string s, .bool false] 85)) w2.heap.size (byts s) false from by have h := IsR.new w2 85 (byts s); rwa [text_byts] at h)
  have ltz := gz.out.lt
  replace gz := Lib.hid (gz.out.alloc (.cells #[.string s, .bool false] 85))
  replace hb := Lib.hid (hb.out.alloc hs (.cells #[.string s, .bool false] 85))
  go_wp2_with fail
  refine Calls.mono (cn _ _ hr3.out) ?_
  rintro e w4 ⟨rfl, gr, hg⟩
  replace gr := Lib.hid gr
  replace gz := Lib.hid (isN_grown gz.out hg (by omega))
  replace hb := Lib.hid (hb.out.grown hg (by rw [size_alloc]; omega) (fun q hq => by rw [← Option.some.inj hq]; exact hs))
  clear hs hg hr3
  have hs := hb.out.size
  have ltr := gr.out.lt
  go_wp2_with fail
  refine (cw.on _).mono ?_
  rintro e w5 ⟨rfl, hb5⟩
  replace gz := Lib.hid (isN_of hb5 gz.out)
  replace gr := Lib.hid (isR_of hb5 gr.out)
  replace hb := Lib.hid (hb.out.trans (hb5.mono hs))
  clear hs hb5
  have hs := hb.out.size
  have hnz := gz.out.lt
  have hnr := gr.out.lt
  replace gz := Lib.hid (gz.out.alloc (oN ⟨false, 0, n⟩))
  replace gr := Lib.hid (gr.out.alloc (oN ⟨false, 0, n⟩))
  have gx := Lib.hid (IsN.new w5 ⟨false, 0, n⟩)
  replace hb := Lib.hid (hb.out.alloc hs (oN ⟨false, 0, n⟩))
  clear hs
  have hs := hb.out.size
  have hfd := field_sign nm sz true
  replace hb := Lib.hid (below_drewed hb.out)
  clear hs
  have hs := hb.out.size
  obtain ⟨cx0, cx1, cx2⟩ := gx.out.all
  dsimp only at cx0 cx1 cx2
  go_wp2_with fail
  refine wp_region_held_at (S := fun w1 => w1.cell? ⟨w5.heap.size, 0, none⟩ = some (.bool false) ∧ w1.cell? ⟨w5.heap.size, 1, none⟩ = some (.int .u64 0) ∧ w1.cell? ⟨w5.heap.size, 2, none⟩ = some (.int .u64 n)) 10 rfl (by kernel_rfl) (by go_keep) (fun hH => ?_)
  refine wpAnyH_take (i := 0) (v := ?_) rfl (by decide +kernel) (by decide +kernel) (by decide +kernel) (fun _ _ _ h => h) (Or.inl ⟨by rfl, ?_⟩) (by assumption) ?_
  rotate_left
  · intro w1 hSw; (try dsimp only at hSw); (try simp only [List.getElem_toArray, List.getElem_cons_zero]); go_simp; try with_reducible rfl
  try simp only [List.getElem_toArray, List.getElem_cons_zero, Act.put, List.setIfInBounds_toArray, List.set_cons_zero, List.set_cons_succ]
  refine wpAnyH_ready (rs := [1]) (by decide +kernel) (by simp) ?_
  refine AllReadyH.cons rfl (fun K hK => ?_) AllReadyH.nil
  (try simp only [List.getElem_toArray, List.getElem_cons_zero, List.getElem_cons_succ])
  go_simp
  refine (ca.on _).mono ?_
  rintro e wr ⟨rfl, hbr⟩
  have hb2 := Lib.hid (hb.out.trans (hbr.mono hs))
  clear hb hs
  have hb := hb2
  clear hb2
  have hs := hb.out.size
  have gg := Lib.hid (isN_of hbr gz.out)
  clear gz
  have gz := gg
  clear gg
  have gg := Lib.hid (isR_of hbr gr.out)
  clear gr
  have gr := gg
  clear gg
  have gg := Lib.hid (isN_of hbr gx.out)
  clear gx
  have gx := gg
  clear gg
  clear hH hbr cx0 cx1 cx2
  obtain ⟨cx0, cx1, cx2⟩ := gx.out.all
  dsimp only at cx0 cx1 cx2
  go_simp
  refine hK.out _ _ (by go_keep) (fun hH => ?_)
  clear hK K
  try simp only [List.getElem_toArray, List.getElem_cons_zero, List.getElem_cons_succ, Act.put, List.setIfInBounds_toArray, List.set_cons_zero, List.set_cons_succ]
  refine wpAnyH_take (i := 2) (v := ?_) rfl (by decide +kernel) (by decide +kernel) (by decide +kernel) (fun _ _ _ h => h) (Or.inl ⟨by rfl, ?_⟩) (by assumption) ?_
  rotate_left
  · intro w1 hSw; (try dsimp only at hSw); (try simp only [List.getElem_toArray, List.getElem_cons_zero, List.getElem_cons_succ]); go_simp; try with_reducible rfl
  try simp only [List.getElem_toArray, List.getElem_cons_zero, List.getElem_cons_succ, Act.put, List.setIfInBounds_toArray, List.set_cons_zero, List.set_cons_succ]
  refine wpAnyH_take (i := 3) (v := ?_) rfl (by decide +kernel) (by decide +kernel) (by decide +kernel) (fun _ _ _ h => h) (Or.inl ⟨by rfl, ?_⟩) (by assumption) ?_
  rotate_left
  · intro w1 hSw; (try dsimp only at hSw); (try simp only [List.getElem_toArray, List.getElem_cons_zero, List.getElem_cons_succ]); go_simp; try with_reducible rfl
  try simp only [List.getElem_toArray, List.getElem_cons_zero, List.getElem_cons_succ, Act.put, List.setIfInBounds_toArray, List.set_cons_zero, List.set_cons_succ]
  refine wpAnyH_take (i := 4) (v := ?_) rfl (by decide +kernel) (by decide +kernel) (by decide +kernel) (fun _ _ _ h => h) (Or.inl ⟨by rfl, ?_⟩) (by assumption) ?_
  rotate_left
  · intro w1 hSw; (try dsimp only at hSw); (try simp only [List.getElem_toArray, List.getElem_cons_zero, List.getElem_cons_succ]); go_simp; try with_reducible rfl
  try simp only [List.getElem_toArray, List.getElem_cons_zero, List.getElem_cons_succ, Act.put, List.setIfInBounds_toArray, List.set_cons_zero, List.set_cons_succ]
  refine wpAnyH_take (i := 5) (v := ?_) rfl (by decide +kernel) (by decide +kernel) (by decide +kernel) (fun _ _ _ h => h) (Or.inl ⟨by rfl, ?_⟩) (by assumption) ?_
  rotate_left
  · intro w1 hSw; (try dsimp only at hSw); (try simp only [List.getElem_toArray, List.getElem_cons_zero, List.getElem_cons_succ]); go_simp; try with_reducible rfl
  try simp only [List.getElem_toArray, List.getElem_cons_zero, List.getElem_cons_succ, Act.put, List.setIfInBounds_toArray, List.set_cons_zero, List.set_cons_succ]
  refine wpAnyH_ready (rs := [6]) (by decide +kernel) (by simp) ?_
  refine AllReadyH.cons rfl (fun K hK => ?_) AllReadyH.nil
  (try simp only [List.getElem_toArray, List.getElem_cons_zero, List.getElem_cons_succ])
  go_simp
  refine (cg.on _).mono ?_
  rintro e wr ⟨rfl, hbr⟩
  have hb2 := Lib.hid (hb.out.trans (hbr.mono hs))
  clear hb hs
  have hb := hb2
  clear hb2
  have hs := hb.out.size
  have gg := Lib.hid (isN_of hbr gz.out)
  clear gz
  have gz := gg
  clear gg
  have gg := Lib.hid (isR_of hbr gr.out)
  clear gr
  have gr := gg
  clear gg
  have gg := Lib.hid (isN_of hbr gx.out)
  clear gx
  have gx := gg
  clear gg
  clear hH hbr cx0 cx1 cx2
  obtain ⟨cx0, cx1, cx2⟩ := gx.out.all
  dsimp only at cx0 cx1 cx2
  go_simp
  refine hK.out _ _ (by go_keep) (fun hH => ?_)
  clear hK K
  try simp only [List.getElem_toArray, List.getElem_cons_zero, List.getElem_cons_succ, Act.put, List.setIfInBounds_toArray, List.set_cons_zero, List.set_cons_succ]
  refine wpAnyH_ready (rs := [7]) (by decide +kernel) (by simp) ?_
  refine AllReadyH.cons rfl (fun K hK => ?_) AllReadyH.nil
  (try simp only [List.getElem_toArray, List.getElem_cons_zero, List.getElem_cons_succ])
  go_simp
  refine (c2.on _).mono ?_
  rintro e wr ⟨rfl, hbr⟩
  have hb2 := Lib.hid (hb.out.trans (hbr.mono hs))
  clear hb hs
  have hb := hb2
  clear hb2
  have hs := hb.out.size
  have gg := Lib.hid (isN_of hbr gz.out)
  clear gz
  have gz := gg
  clear gg
  have gg := Lib.hid (isR_of hbr gr.out)
  clear gr
  have gr := gg
  clear gg
  have gg := Lib.hid (isN_of hbr gx.out)
  clear gx
  have gx := gg
  clear gg
  clear hH hbr cx0 cx1 cx2
  obtain ⟨cx0, cx1, cx2⟩ := gx.out.all
  dsimp only at cx0 cx1 cx2
  go_simp
  refine hK.out _ _ (by go_keep) (fun hH => ?_)
  clear hK K
  try simp only [List.getElem_toArray, List.getElem_cons_zero, List.getElem_cons_succ, Act.put, List.setIfInBounds_toArray, List.set_cons_zero, List.set_cons_succ]
  refine wpAnyH_take (i := 8) (v := ?_) rfl (by decide +kernel) (by decide +kernel) (by decide +kernel) (fun _ _ _ h => h) (Or.inl ⟨by rfl, ?_⟩) (by assumption) ?_
  rotate_left
  · intro w1 hSw; (try dsimp only at hSw); (try simp only [List.getElem_toArray, List.getElem_cons_zero, List.getElem_cons_succ]); go_simp; try with_reducible rfl
  try simp only [List.getElem_toArray, List.getElem_cons_zero, List.getElem_cons_succ, Act.put, List.setIfInBounds_toArray, List.set_cons_zero, List.set_cons_succ]
  refine wpAnyH_take (i := 9) (v := ?_) rfl (by decide +kernel) (by decide +kernel) (by decide +kernel) (fun _ _ _ h => h) (Or.inl ⟨by rfl, ?_⟩) (by assumption) ?_
  rotate_left
  · intro w1 hSw; (try dsimp only at hSw); (try simp only [List.getElem_toArray, List.getElem_cons_zero, List.getElem_cons_succ]); go_simp; try with_reducible rfl
  try simp only [List.getElem_toArray, List.getElem_cons_zero, List.getElem_cons_succ, Act.put, List.setIfInBounds_toArray, List.set_cons_zero, List.set_cons_succ]
  refine wpAnyH_done (by decide +kernel) ?_ _
  clear hH
  clear cx0 cx1 cx2
  go_upto_region 7 with fail
  go_cut [] (fun wx => IsN wx w.heap.size ⟨false, 0, 0⟩ ∧ IsN wx w5.heap.size ⟨Yn, Yh, Yl⟩ ∧ IsR 85 wx w2.heap.size rest bad ∧ Below w.heap.size w wx)
  case first =>
    obtain ⟨x0, x1, x2⟩ := gx.out.drew.all
    dsimp only at x0 x1 x2
    replace gx := Lib.hid gx.out.drew
    replace gz := Lib.hid gz.out.drew
    replace gr := Lib.hid gr.out.drew
    replace hb := Lib.hid (below_drewed hb.out)
    clear hs
    have hs := hb.out.size
    refine wp_region_held_at (S := fun _ => True) 10 rfl (by kernel_rfl) trivial (fun _ => ?_)
    refine wpAnyH_take (i := 1) (v := ?_) rfl (by decide +kernel) (by decide +kernel) (by decide +kernel) (fun _ _ _ h => h) (Or.inl ⟨by rfl, ?_⟩) trivial ?_
    rotate_left
    · intro w _; (try simp only [List.getElem_toArray, List.getElem_cons_zero, List.getElem_cons_succ]); go_simp; try with_reducible rfl
    try simp only [List.getElem_toArray, List.getElem_cons_zero, List.getElem_cons_succ, Act.put, List.setIfInBounds_toArray, List.set_cons_zero, List.set_cons_succ]
    refine wpAnyH_take (i := 2) (v := ?_) rfl (by decide +kernel) (by decide +kernel) (by decide +kernel) (fun _ _ _ h => h) (Or.inl ⟨by rfl, ?_⟩) trivial ?_
    rotate_left
    · intro w _; (try simp only [List.getElem_toArray, List.getElem_cons_zero, List.getElem_cons_succ]); go_simp; try with_reducible rfl
    try simp only [List.getElem_toArray, List.getElem_cons_zero, List.getElem_cons_succ, Act.put, List.setIfInBounds_toArray, List.set_cons_zero, List.set_cons_succ]
    refine wpAnyH_ready (rs := [0, 3]) (by decide +kernel) (by simp) ?_
    refine AllReadyH.cons rfl (fun K hK => ?_) ?_
    · (try simp only [List.getElem_toArray, List.getElem_cons_zero])
      go_simp
      refine hK.out _ _ trivial (fun _ => ?_)
      clear hK K
      try simp only [List.getElem_toArray, List.getElem_cons_zero, List.getElem_cons_succ, Act.put, List.setIfInBounds_toArray, List.set_cons_zero, List.set_cons_succ]
      refine wpAnyH_ready (rs := [3]) (by decide +kernel) (by simp) ?_
      refine AllReadyH.cons rfl (fun K hK => ?_) ?_
      · (try simp only [List.getElem_toArray, List.getElem_cons_zero, List.getElem_cons_succ])
        go_simp
        refine (cp.on _).mono ?_
        rintro e wq ⟨rfl, hbq⟩
        have gx9 := Lib.hid (isN_of hbq gx.out)
        have gz9 := Lib.hid (isN_of hbq gz.out)
        have gr9 := Lib.hid (isR_of hbq gr.out)
        have hb9 := Lib.hid (hb.out.trans (hbq.mono hs))
        clear gx gz gr hb hs x0 x1 x2
        have gx := gx9
        have gz := gz9
        have gr := gr9
        have hb := hb9
        clear gx9 gz9 gr9 hb9 hbq
        have hs := hb.out.size
        obtain ⟨x0, x1, x2⟩ := gx.out.all
        dsimp only at x0 x1 x2
        go_simp
        refine hK.out _ _ trivial (fun _ => ?_)
        clear hK K
        try simp only [List.getElem_toArray, List.getElem_cons_zero, List.getElem_cons_succ, Act.put, List.setIfInBounds_toArray, List.set_cons_zero, List.set_cons_succ]
        refine wpAnyH_ready (rs := [4]) (by decide +kernel) (by simp) ?_
        refine AllReadyH.cons rfl (fun K hK => ?_) ?_
        · (try simp only [List.getElem_toArray, List.getElem_cons_zero, List.getElem_cons_succ])
          go_simp
          refine (cwp.on _).mono ?_
          rintro e wq ⟨rfl, hbq⟩
          have gx9 := Lib.hid (isN_of hbq gx.out)
          have gz9 := Lib.hid (isN_of hbq gz.out)
          have gr9 := Lib.hid (isR_of hbq gr.out)
          have hb9 := Lib.hid (hb.out.trans (hbq.mono hs))
          clear gx gz gr hb hs x0 x1 x2
          have gx := gx9
          have gz := gz9
          have gr := gr9
          have hb := hb9
          clear gx9 gz9 gr9 hb9 hbq
          have hs := hb.out.size
          obtain ⟨x0, x1, x2⟩ := gx.out.all
          dsimp only at x0 x1 x2
          go_simp
          refine hK.out _ _ trivial (fun _ => ?_)
          clear hK K
          try simp only [List.getElem_toArray, List.getElem_cons_zero, List.getElem_cons_succ, Act.put, List.setIfInBounds_toArray, List.set_cons_zero, List.set_cons_succ]
          refine wpAnyH_ready (rs := [5]) (by decide +kernel) (by simp) ?_
          refine AllReadyH.cons rfl (fun K hK => ?_) ?_
          · (try simp only [List.getElem_toArray, List.getElem_cons_zero, List.getElem_cons_succ])
            go_simp
            refine (cs1.on _).mono ?_
            rintro e wq ⟨rfl, hbq⟩
            have gx9 := Lib.hid (isN_of hbq gx.out)
            have gz9 := Lib.hid (isN_of hbq gz.out)
            have gr9 := Lib.hid (isR_of hbq gr.out)
            have hb9 := Lib.hid (hb.out.trans (hbq.mono hs))
            clear gx gz gr hb hs x0 x1 x2
            have gx := gx9
            have gz := gz9
            have gr := gr9
            have hb := hb9
            clear gx9 gz9 gr9 hb9 hbq
            have hs := hb.out.size
            obtain ⟨x0, x1, x2⟩ := gx.out.all
            dsimp only at x0 x1 x2
            have xf := gx.out.f
            have gx8 := Lib.hid (gx.out.set Yn Yh Yl)
            have gz8 := Lib.hid (gz.out.set3_other (c := w5.heap.size) (v0 := .bool Yn) (v1 := .int .u64 Yh) (v2 := .int .u64 Yl) (by omega))
            have gr8 := Lib.hid (gr.out.set3_other (c := w5.heap.size) (v0 := .bool Yn) (v1 := .int .u64 Yh) (v2 := .int .u64 Yl) (by omega))
            have hb8 := Lib.hid (below_set3 hb.out (b := w5.heap.size) (by omega) (.bool Yn) (.int .u64 Yh) (.int .u64 Yl))
            clear gx gz gr hb hs
            go_simp
            refine hK.out _ _ trivial (fun _ => ?_)
            clear hK K
            try simp only [List.getElem_toArray, List.getElem_cons_zero, List.getElem_cons_succ, Act.put, List.setIfInBounds_toArray, List.set_cons_zero, List.set_cons_succ]
            refine wpAnyH_take (i := 6) (v := ?_) rfl (by decide +kernel) (by decide +kernel) (by decide +kernel) (fun _ _ _ h => h) (Or.inl ⟨by rfl, ?_⟩) trivial ?_
            rotate_left
            · intro w _; (try simp only [List.getElem_toArray, List.getElem_cons_zero, List.getElem_cons_succ]); go_simp; try with_reducible rfl
            try simp only [List.getElem_toArray, List.getElem_cons_zero, List.getElem_cons_succ, Act.put, List.setIfInBounds_toArray, List.set_cons_zero, List.set_cons_succ]
            refine wpAnyH_take (i := 7) (v := ?_) rfl (by decide +kernel) (by decide +kernel) (by decide +kernel) (fun _ _ _ h => h) (Or.inl ⟨by rfl, ?_⟩) trivial ?_
            rotate_left
            · intro w _; (try simp only [List.getElem_toArray, List.getElem_cons_zero, List.getElem_cons_succ]); go_simp; try with_reducible rfl
            try simp only [List.getElem_toArray, List.getElem_cons_zero, List.getElem_cons_succ, Act.put, List.setIfInBounds_toArray, List.set_cons_zero, List.set_cons_succ]
            refine wpAnyH_take (i := 8) (v := ?_) rfl (by decide +kernel) (by decide +kernel) (by decide +kernel) (fun _ _ _ h => h) (Or.inl ⟨by rfl, ?_⟩) trivial ?_
            rotate_left
            · intro w _; (try simp only [List.getElem_toArray, List.getElem_cons_zero, List.getElem_cons_succ]); go_simp; try with_reducible rfl
            try simp only [List.getElem_toArray, List.getElem_cons_zero, List.getElem_cons_succ, Act.put, List.setIfInBounds_toArray, List.set_cons_zero, List.set_cons_succ]
            refine wpAnyH_ready (rs := [9]) (by decide +kernel) (by simp) ?_
            refine AllReadyH.cons rfl (fun K hK => ?_) ?_
            · (try simp only [List.getElem_toArray, List.getElem_cons_zero, List.getElem_cons_succ])
              go_simp
              refine hK.out _ _ trivial (fun _ => ?_)
              clear hK K
              try simp only [List.getElem_toArray, List.getElem_cons_zero, List.getElem_cons_succ, Act.put, List.setIfInBounds_toArray, List.set_cons_zero, List.set_cons_succ]
              refine wpAnyH_done (by decide +kernel) ?_ _
              go_wp2_with fail
              go_meet
              exact ⟨gz8.out, gx8.out, gr8.out, hb8.out⟩
            exact AllReadyH.nil
          exact AllReadyH.nil
        exact AllReadyH.nil
      exact AllReadyH.nil
    refine AllReadyH.cons rfl (fun K hK => ?_) ?_
    · (try simp only [List.getElem_toArray, List.getElem_cons_zero, List.getElem_cons_succ])
      go_simp
      refine (cp.on _).mono ?_
      rintro e wq ⟨rfl, hbq⟩
      have gx9 := Lib.hid (isN_of hbq gx.out)
      have gz9 := Lib.hid (isN_of hbq gz.out)
      have gr9 := Lib.hid (isR_of hbq gr.out)
      have hb9 := Lib.hid (hb.out.trans (hbq.mono hs))
      clear gx gz gr hb hs x0 x1 x2
      have gx := gx9
      have gz := gz9
      have gr := gr9
      have hb := hb9
      clear gx9 gz9 gr9 hb9 hbq
      have hs := hb.out.size
      obtain ⟨x0, x1, x2⟩ := gx.out.all
      dsimp only at x0 x1 x2
      go_simp
      refine hK.out _ _ trivial (fun _ => ?_)
      clear hK K
      try simp only [List.getElem_toArray, List.getElem_cons_zero, List.getElem_cons_succ, Act.put, List.setIfInBounds_toArray, List.set_cons_zero, List.set_cons_succ]
      refine wpAnyH_ready (rs := [0, 4]) (by decide +kernel) (by simp) ?_
      refine AllReadyH.cons rfl (fun K hK => ?_) ?_
      · (try simp only [List.getElem_toArray, List.getElem_cons_zero])
        go_simp
        refine hK.out _ _ trivial (fun _ => ?_)
        clear hK K
        try simp only [List.getElem_toArray, List.getElem_cons_zero, List.getElem_cons_succ, Act.put, List.setIfInBounds_toArray, List.set_cons_zero, List.set_cons_succ]
        refine wpAnyH_ready (rs := [4]) (by decide +kernel) (by simp) ?_
        refine AllReadyH.cons rfl (fun K hK => ?_) ?_
        · (try simp only [List.getElem_toArray, List.getElem_cons_zero, List.getElem_cons_succ])
          go_simp
          refine (cwp.on _).mono ?_
          rintro e wq ⟨rfl, hbq⟩
          have gx9 := Lib.hid (isN_of hbq gx.out)
          have gz9 := Lib.hid (isN_of hbq gz.out)
          have gr9 := Lib.hid (isR_of hbq gr.out)
          have hb9 := Lib.hid (hb.out.trans (hbq.mono hs))
          clear gx gz gr hb hs x0 x1 x2
          have gx := gx9
          have gz := gz9
          have gr := gr9
          have hb := hb9
          clear gx9 gz9 gr9 hb9 hbq
          have hs := hb.out.size
          obtain ⟨x0, x1, x2⟩ := gx.out.all
          dsimp only at x0 x1 x2
          go_simp
          refine hK.out _ _ trivial (fun _ => ?_)
          clear hK K
          try simp only [List.getElem_toArray, List.getElem_cons_zero, List.getElem_cons_succ, Act.put, List.setIfInBounds_toArray, List.set_cons_zero, List.set_cons_succ]
          refine wpAnyH_ready (rs := [5]) (by decide +kernel) (by simp) ?_
          refine AllReadyH.cons rfl (fun K hK => ?_) ?_
          · (try simp only [List.getElem_toArray, List.getElem_cons_zero, List.getElem_cons_succ])
            go_simp
            refine (cs1.on _).mono ?_
            rintro e wq ⟨rfl, hbq⟩
            have gx9 := Lib.hid (isN_of hbq gx.out)
            have gz9 := Lib.hid (isN_of hbq gz.out)
            have gr9 := Lib.hid (isR_of hbq gr.out)
            have hb9 := Lib.hid (hb.out.trans (hbq.mono hs))
            clear gx gz gr hb hs x0 x1 x2
            have gx := gx9
            have gz := gz9
            have gr := gr9
            have hb := hb9
            clear gx9 gz9 gr9 hb9 hbq
            have hs := hb.out.size
            obtain ⟨x0, x1, x2⟩ := gx.out.all
            dsimp only at x0 x1 x2
            have xf := gx.out.f
            have gx8 := Lib.hid (gx.out.set Yn Yh Yl)
            have gz8 := Lib.hid (gz.out.set3_other (c := w5.heap.size) (v0 := .bool Yn) (v1 := .int .u64 Yh) (v2 := .int .u64 Yl) (by omega))
            have gr8 := Lib.hid (gr.out.set3_other (c := w5.heap.size) (v0 := .bool Yn) (v1 := .int .u64 Yh) (v2 := .int .u64 Yl) (by omega))
            have hb8 := Lib.hid (below_set3 hb.out (b := w5.heap.size) (by omega) (.bool Yn) (.int .u64 Yh) (.int .u64 Yl))
            clear gx gz gr hb hs
            go_simp
            refine hK.out _ _ trivial (fun _ => ?_)
            clear hK K
            try simp only [List.getElem_toArray, List.getElem_cons_zero, List.getElem_cons_succ, Act.put, List.setIfInBounds_toArray, List.set_cons_zero, List.set_cons_succ]
            refine wpAnyH_take (i := 6) (v := ?_) rfl (by decide +kernel) (by decide +kernel) (by decide +kernel) (fun _ _ _ h => h) (Or.inl ⟨by rfl, ?_⟩) trivial ?_
            rotate_left
            · intro w _; (try simp only [List.getElem_toArray, List.getElem_cons_zero, List.getElem_cons_succ]); go_simp; try with_reducible rfl
            try simp only [List.getElem_toArray, List.getElem_cons_zero, List.getElem_cons_succ, Act.put, List.setIfInBounds_toArray, List.set_cons_zero, List.set_cons_succ]
            refine wpAnyH_take (i := 7) (v := ?_) rfl (by decide +kernel) (by decide +kernel) (by decide +kernel) (fun _ _ _ h => h) (Or.inl ⟨by rfl, ?_⟩) trivial ?_
            rotate_left
            · intro w _; (try simp only [List.getElem_toArray, List.getElem_cons_zero, List.getElem_cons_succ]); go_simp; try with_reducible rfl
            try simp only [List.getElem_toArray, List.getElem_cons_zero, List.getElem_cons_succ, Act.put, List.setIfInBounds_toArray, List.set_cons_zero, List.set_cons_succ]
            refine wpAnyH_take (i := 8) (v := ?_) rfl (by decide +kernel) (by decide +kernel) (by decide +kernel) (fun _ _ _ h => h) (Or.inl ⟨by rfl, ?_⟩) trivial ?_
            rotate_left
            · intro w _; (try simp only [List.getElem_toArray, List.getElem_cons_zero, List.getElem_cons_succ]); go_simp; try with_reducible rfl
            try simp only [List.getElem_toArray, List.getElem_cons_zero, List.getElem_cons_succ, Act.put, List.setIfInBounds_toArray, List.set_cons_zero, List.set_cons_succ]
            refine wpAnyH_ready (rs := [9]) (by decide +kernel) (by simp) ?_
            refine AllReadyH.cons rfl (fun K hK => ?_) ?_
            · (try simp only [List.getElem_toArray, List.getElem_cons_zero, List.getElem_cons_succ])
              go_simp
              refine hK.out _ _ trivial (fun _ => ?_)
              clear hK K
              try simp only [List.getElem_toArray, List.getElem_cons_zero, List.getElem_cons_succ, Act.put, List.setIfInBounds_toArray, List.set_cons_zero, List.set_cons_succ]
              refine wpAnyH_done (by decide +kernel) ?_ _
              go_wp2_with fail
              go_meet
              exact ⟨gz8.out, gx8.out, gr8.out, hb8.out⟩
            exact AllReadyH.nil
          exact AllReadyH.nil
        exact AllReadyH.nil
      refine AllReadyH.cons rfl (fun K hK => ?_) ?_
      · (try simp only [List.getElem_toArray, List.getElem_cons_zero, List.getElem_cons_succ])
        go_simp
        refine (cwp.on _).mono ?_
        rintro e wq ⟨rfl, hbq⟩
        have gx9 := Lib.hid (isN_of hbq gx.out)
        have gz9 := Lib.hid (isN_of hbq gz.out)
        have gr9 := Lib.hid (isR_of hbq gr.out)
        have hb9 := Lib.hid (hb.out.trans (hbq.mono hs))
        clear gx gz gr hb hs x0 x1 x2
        have gx := gx9
        have gz := gz9
        have gr := gr9
        have hb := hb9
        clear gx9 gz9 gr9 hb9 hbq
        have hs := hb.out.size
        obtain ⟨x0, x1, x2⟩ := gx.out.all
        dsimp only at x0 x1 x2
        go_simp
        refine hK.out _ _ trivial (fun _ => ?_)
        clear hK K
        try simp only [List.getElem_toArray, List.getElem_cons_zero, List.getElem_cons_succ, Act.put, List.setIfInBounds_toArray, List.set_cons_zero, List.set_cons_succ]
        refine wpAnyH_ready (rs := [0]) (by decide +kernel) (by simp) ?_
        refine AllReadyH.cons rfl (fun K hK => ?_) ?_
        · (try simp only [List.getElem_toArray, List.getElem_cons_zero])
          go_simp
          refine hK.out _ _ trivial (fun _ => ?_)
          clear hK K
          try simp only [List.getElem_toArray, List.getElem_cons_zero, List.getElem_cons_succ, Act.put, List.setIfInBounds_toArray, List.set_cons_zero, List.set_cons_succ]
          refine wpAnyH_ready (rs := [5]) (by decide +kernel) (by simp) ?_
          refine AllReadyH.cons rfl (fun K hK => ?_) ?_
          · (try simp only [List.getElem_toArray, List.getElem_cons_zero, List.getElem_cons_succ])
            go_simp
            refine (cs1.on _).mono ?_
            rintro e wq ⟨rfl, hbq⟩
            have gx9 := Lib.hid (isN_of hbq gx.out)
            have gz9 := Lib.hid (isN_of hbq gz.out)
            have gr9 := Lib.hid (isR_of hbq gr.out)
            have hb9 := Lib.hid (hb.out.trans (hbq.mono hs))
            clear gx gz gr hb hs x0 x1 x2
            have gx := gx9
            have gz := gz9
            have gr := gr9
            have hb := hb9
            clear gx9 gz9 gr9 hb9 hbq
            have hs := hb.out.size
            obtain ⟨x0, x1, x2⟩ := gx.out.all
            dsimp only at x0 x1 x2
            have xf := gx.out.f
            have gx8 := Lib.hid (gx.out.set Yn Yh Yl)
            have gz8 := Lib.hid (gz.out.set3_other (c := w5.heap.size) (v0 := .bool Yn) (v1 := .int .u64 Yh) (v2 := .int .u64 Yl) (by omega))
            have gr8 := Lib.hid (gr.out.set3_other (c := w5.heap.size) (v0 := .bool Yn) (v1 := .int .u64 Yh) (v2 := .int .u64 Yl) (by omega))
            have hb8 := Lib.hid (below_set3 hb.out (b := w5.heap.size) (by omega) (.bool Yn) (.int .u64 Yh) (.int .u64 Yl))
            clear gx gz gr hb hs
            go_simp
            refine hK.out _ _ trivial (fun _ => ?_)
            clear hK K
            try simp only [List.getElem_toArray, List.getElem_cons_zero, List.getElem_cons_succ, Act.put, List.setIfInBounds_toArray, List.set_cons_zero, List.set_cons_succ]
            refine wpAnyH_take (i := 6) (v := ?_) rfl (by decide +kernel) (by decide +kernel) (by decide +kernel) (fun _ _ _ h => h) (Or.inl ⟨by rfl, ?_⟩) trivial ?_
            rotate_left
            · intro w _; (try simp only [List.getElem_toArray, List.getElem_cons_zero, List.getElem_cons_succ]); go_simp; try with_reducible rfl
            try simp only [List.getElem_toArray, List.getElem_cons_zero, List.getElem_cons_succ, Act.put, List.setIfInBounds_toArray, List.set_cons_zero, List.set_cons_succ]
            refine wpAnyH_take (i := 7) (v := ?_) rfl (by decide +kernel) (by decide +kernel) (by decide +kernel) (fun _ _ _ h => h) (Or.inl ⟨by rfl, ?_⟩) trivial ?_
            rotate_left
            · intro w _; (try simp only [List.getElem_toArray, List.getElem_cons_zero, List.getElem_cons_succ]); go_simp; try with_reducible rfl
            try simp only [List.getElem_toArray, List.getElem_cons_zero, List.getElem_cons_succ, Act.put, List.setIfInBounds_toArray, List.set_cons_zero, List.set_cons_succ]
            refine wpAnyH_take (i := 8) (v := ?_) rfl (by decide +kernel) (by decide +kernel) (by decide +kernel) (fun _ _ _ h => h) (Or.inl ⟨by rfl, ?_⟩) trivial ?_
            rotate_left
            · intro w _; (try simp only [List.getElem_toArray, List.getElem_cons_zero, List.getElem_cons_succ]); go_simp; try with_reducible rfl
            try simp only [List.getElem_toArray, List.getElem_cons_zero, List.getElem_cons_succ, Act.put, List.setIfInBounds_toArray, List.set_cons_zero, List.set_cons_succ]
            refine wpAnyH_ready (rs := [9]) (by decide +kernel) (by simp) ?_
            refine AllReadyH.cons rfl (fun K hK => ?_) ?_
            · (try simp only [List.getElem_toArray, List.getElem_cons_zero, List.getElem_cons_succ])
              go_simp
              refine hK.out _ _ trivial (fun _ => ?_)
              clear hK K
              try simp only [List.getElem_toArray, List.getElem_cons_zero, List.getElem_cons_succ, Act.put, List.setIfInBounds_toArray, List.set_cons_zero, List.set_cons_succ]
              refine wpAnyH_done (by decide +kernel) ?_ _
              go_wp2_with fail
              go_meet
              exact ⟨gz8.out, gx8.out, gr8.out, hb8.out⟩
            exact AllReadyH.nil
          exact AllReadyH.nil
        exact AllReadyH.nil
      exact AllReadyH.nil
    exact AllReadyH.nil
  obtain ⟨gz0, gx0, gr0, hb0⟩ := hcut
  clear gx gz gr hb hs
  have gz := Lib.hid gz0
  have gx := Lib.hid gx0
  have gr := Lib.hid gr0
  have hb := Lib.hid hb0
  clear gz0 gx0 gr0 hb0
  have hs := hb.out.size
  go_upto_region 8 with fail
  go_cut [] (fun wx => IsN wx w.heap.size ⟨false, 0, 0⟩ ∧ IsN wx w5.heap.size ⟨Zn, Zh, Zl⟩ ∧ IsR 85 wx w2.heap.size rest bad ∧ Below w.heap.size w wx)
  case first =>
    obtain ⟨x0, x1, x2⟩ := gx.out.drew.all
    dsimp only at x0 x1 x2
    replace gx := Lib.hid gx.out.drew
    replace gz := Lib.hid gz.out.drew
    replace gr := Lib.hid gr.out.drew
    replace hb := Lib.hid (below_drewed hb.out)
    clear hs
    have hs := hb.out.size
    refine wp_region_held_at (S := fun _ => True) 7 rfl (by kernel_rfl) trivial (fun _ => ?_)
    refine wpAnyH_ready (rs := [0, 1]) (by decide +kernel) (by simp) ?_
    refine AllReadyH.cons rfl (fun K hK => ?_) ?_
    · (try simp only [List.getElem_toArray, List.getElem_cons_zero])
      go_simp
      refine hK.out _ _ trivial (fun _ => ?_)
      clear hK K
      try simp only [List.getElem_toArray, List.getElem_cons_zero, List.getElem_cons_succ, Act.put, List.setIfInBounds_toArray, List.set_cons_zero, List.set_cons_succ]
      refine wpAnyH_ready (rs := [1]) (by decide +kernel) (by simp) ?_
      refine AllReadyH.cons rfl (fun K hK => ?_) ?_
      · (try simp only [List.getElem_toArray, List.getElem_cons_zero, List.getElem_cons_succ])
        go_simp
        refine (c1.on _).mono ?_
        rintro e wq ⟨rfl, hbq⟩
        have gx9 := Lib.hid (isN_of hbq gx.out)
        have gz9 := Lib.hid (isN_of hbq gz.out)
        have gr9 := Lib.hid (isR_of hbq gr.out)
        have hb9 := Lib.hid (hb.out.trans (hbq.mono hs))
        clear gx gz gr hb hs x0 x1 x2
        have gx := gx9
        have gz := gz9
        have gr := gr9
        have hb := hb9
        clear gx9 gz9 gr9 hb9 hbq
        have hs := hb.out.size
        obtain ⟨x0, x1, x2⟩ := gx.out.all
        dsimp only at x0 x1 x2
        go_simp
        refine hK.out _ _ trivial (fun _ => ?_)
        clear hK K
        try simp only [List.getElem_toArray, List.getElem_cons_zero, List.getElem_cons_succ, Act.put, List.setIfInBounds_toArray, List.set_cons_zero, List.set_cons_succ]
        refine wpAnyH_ready (rs := [2]) (by decide +kernel) (by simp) ?_
        refine AllReadyH.cons rfl (fun K hK => ?_) ?_
        · (try simp only [List.getElem_toArray, List.getElem_cons_zero, List.getElem_cons_succ])
          go_simp
          refine (cs2.on _).mono ?_
          rintro e wq ⟨rfl, hbq⟩
          have gx9 := Lib.hid (isN_of hbq gx.out)
          have gz9 := Lib.hid (isN_of hbq gz.out)
          have gr9 := Lib.hid (isR_of hbq gr.out)
          have hb9 := Lib.hid (hb.out.trans (hbq.mono hs))
          clear gx gz gr hb hs x0 x1 x2
          have gx := gx9
          have gz := gz9
          have gr := gr9
          have hb := hb9
          clear gx9 gz9 gr9 hb9 hbq
          have hs := hb.out.size
          obtain ⟨x0, x1, x2⟩ := gx.out.all
          dsimp only at x0 x1 x2
          have xf := gx.out.f
          have gx8 := Lib.hid (gx.out.set Zn Zh Zl)
          have gz8 := Lib.hid (gz.out.set3_other (c := w5.heap.size) (v0 := .bool Zn) (v1 := .int .u64 Zh) (v2 := .int .u64 Zl) (by omega))
          have gr8 := Lib.hid (gr.out.set3_other (c := w5.heap.size) (v0 := .bool Zn) (v1 := .int .u64 Zh) (v2 := .int .u64 Zl) (by omega))
          have hb8 := Lib.hid (below_set3 hb.out (b := w5.heap.size) (by omega) (.bool Zn) (.int .u64 Zh) (.int .u64 Zl))
          clear gx gz gr hb hs
          go_simp
          refine hK.out _ _ trivial (fun _ => ?_)
          clear hK K
          try simp only [List.getElem_toArray, List.getElem_cons_zero, List.getElem_cons_succ, Act.put, List.setIfInBounds_toArray, List.set_cons_zero, List.set_cons_succ]
          refine wpAnyH_take (i := 3) (v := ?_) rfl (by decide +kernel) (by decide +kernel) (by decide +kernel) (fun _ _ _ h => h) (Or.inl ⟨by rfl, ?_⟩) trivial ?_
          rotate_left
          · intro w _; (try simp only [List.getElem_toArray, List.getElem_cons_zero, List.getElem_cons_succ]); go_simp; try with_reducible rfl
          try simp only [List.getElem_toArray, List.getElem_cons_zero, List.getElem_cons_succ, Act.put, List.setIfInBounds_toArray, List.set_cons_zero, List.set_cons_succ]
          refine wpAnyH_take (i := 4) (v := ?_) rfl (by decide +kernel) (by decide +kernel) (by decide +kernel) (fun _ _ _ h => h) (Or.inl ⟨by rfl, ?_⟩) trivial ?_
          rotate_left
          · intro w _; (try simp only [List.getElem_toArray, List.getElem_cons_zero, List.getElem_cons_succ]); go_simp; try with_reducible rfl
          try simp only [List.getElem_toArray, List.getElem_cons_zero, List.getElem_cons_succ, Act.put, List.setIfInBounds_toArray, List.set_cons_zero, List.set_cons_succ]
          refine wpAnyH_take (i := 5) (v := ?_) rfl (by decide +kernel) (by decide +kernel) (by decide +kernel) (fun _ _ _ h => h) (Or.inl ⟨by rfl, ?_⟩) trivial ?_
          rotate_left
          · intro w _; (try simp only [List.getElem_toArray, List.getElem_cons_zero, List.getElem_cons_succ]); go_simp; try with_reducible rfl
          try simp only [List.getElem_toArray, List.getElem_cons_zero, List.getElem_cons_succ, Act.put, List.setIfInBounds_toArray, List.set_cons_zero, List.set_cons_succ]
          refine wpAnyH_ready (rs := [6]) (by decide +kernel) (by simp) ?_
          refine AllReadyH.cons rfl (fun K hK => ?_) ?_
          · (try simp only [List.getElem_toArray, List.getElem_cons_zero, List.getElem_cons_succ])
            go_simp
            refine hK.out _ _ trivial (fun _ => ?_)
            clear hK K
            try simp only [List.getElem_toArray, List.getElem_cons_zero, List.getElem_cons_succ, Act.put, List.setIfInBounds_toArray, List.set_cons_zero, List.set_cons_succ]
            refine wpAnyH_done (by decide +kernel) ?_ _
            go_wp2_with fail
            go_meet
            exact ⟨gz8.out, gx8.out, gr8.out, hb8.out⟩
          exact AllReadyH.nil
        exact AllReadyH.nil
      exact AllReadyH.nil
    refine AllReadyH.cons rfl (fun K hK => ?_) ?_
    · (try simp only [List.getElem_toArray, List.getElem_cons_zero, List.getElem_cons_succ])
      go_simp
      refine (c1.on _).mono ?_
      rintro e wq ⟨rfl, hbq⟩
      have gx9 := Lib.hid (isN_of hbq gx.out)
      have gz9 := Lib.hid (isN_of hbq gz.out)
      have gr9 := Lib.hid (isR_of hbq gr.out)
      have hb9 := Lib.hid (hb.out.trans (hbq.mono hs))
      clear gx gz gr hb hs x0 x1 x2
      have gx := gx9
      have gz := gz9
      have gr := gr9
      have hb := hb9
      clear gx9 gz9 gr9 hb9 hbq
      have hs := hb.out.size
      obtain ⟨x0, x1, x2⟩ := gx.out.all
      dsimp only at x0 x1 x2
      go_simp
      refine hK.out _ _ trivial (fun _ => ?_)
      clear hK K
      try simp only [List.getElem_toArray, List.getElem_cons_zero, List.getElem_cons_succ, Act.put, List.setIfInBounds_toArray, List.set_cons_zero, List.set_cons_succ]
      refine wpAnyH_ready (rs := [0]) (by decide +kernel) (by simp) ?_
      refine AllReadyH.cons rfl (fun K hK => ?_) ?_
      · (try simp only [List.getElem_toArray, List.getElem_cons_zero])
        go_simp
        refine hK.out _ _ trivial (fun _ => ?_)
        clear hK K
        try simp only [List.getElem_toArray, List.getElem_cons_zero, List.getElem_cons_succ, Act.put, List.setIfInBounds_toArray, List.set_cons_zero, List.set_cons_succ]
        refine wpAnyH_ready (rs := [2]) (by decide +kernel) (by simp) ?_
        refine AllReadyH.cons rfl (fun K hK => ?_) ?_
        · (try simp only [List.getElem_toArray, List.getElem_cons_zero, List.getElem_cons_succ])
          go_simp
          refine (cs2.on _).mono ?_
          rintro e wq ⟨rfl, hbq⟩
          have gx9 := Lib.hid (isN_of hbq gx.out)
          have gz9 := Lib.hid (isN_of hbq gz.out)
          have gr9 := Lib.hid (isR_of hbq gr.out)
          have hb9 := Lib.hid (hb.out.trans (hbq.mono hs))
          clear gx gz gr hb hs x0 x1 x2
          have gx := gx9
          have gz := gz9
          have gr := gr9
          have hb := hb9
          clear gx9 gz9 gr9 hb9 hbq
          have hs := hb.out.size
          obtain ⟨x0, x1, x2⟩ := gx.out.all
          dsimp only at x0 x1 x2
          have xf := gx.out.f
          have gx8 := Lib.hid (gx.out.set Zn Zh Zl)
          have gz8 := Lib.hid (gz.out.set3_other (c := w5.heap.size) (v0 := .bool Zn) (v1 := .int .u64 Zh) (v2 := .int .u64 Zl) (by omega))
          have gr8 := Lib.hid (gr.out.set3_other (c := w5.heap.size) (v0 := .bool Zn) (v1 := .int .u64 Zh) (v2 := .int .u64 Zl) (by omega))
          have hb8 := Lib.hid (below_set3 hb.out (b := w5.heap.size) (by omega) (.bool Zn) (.int .u64 Zh) (.int .u64 Zl))
          clear gx gz gr hb hs
          go_simp
          refine hK.out _ _ trivial (fun _ => ?_)
          clear hK K
          try simp only [List.getElem_toArray, List.getElem_cons_zero, List.getElem_cons_succ, Act.put, List.setIfInBounds_toArray, List.set_cons_zero, List.set_cons_succ]
          refine wpAnyH_take (i := 3) (v := ?_) rfl (by decide +kernel) (by decide +kernel) (by decide +kernel) (fun _ _ _ h => h) (Or.inl ⟨by rfl, ?_⟩) trivial ?_
          rotate_left
          · intro w _; (try simp only [List.getElem_toArray, List.getElem_cons_zero, List.getElem_cons_succ]); go_simp; try with_reducible rfl
          try simp only [List.getElem_toArray, List.getElem_cons_zero, List.getElem_cons_succ, Act.put, List.setIfInBounds_toArray, List.set_cons_zero, List.set_cons_succ]
          refine wpAnyH_take (i := 4) (v := ?_) rfl (by decide +kernel) (by decide +kernel) (by decide +kernel) (fun _ _ _ h => h) (Or.inl ⟨by rfl, ?_⟩) trivial ?_
          rotate_left
          · intro w _; (try simp only [List.getElem_toArray, List.getElem_cons_zero, List.getElem_cons_succ]); go_simp; try with_reducible rfl
          try simp only [List.getElem_toArray, List.getElem_cons_zero, List.getElem_cons_succ, Act.put, List.setIfInBounds_toArray, List.set_cons_zero, List.set_cons_succ]
          refine wpAnyH_take (i := 5) (v := ?_) rfl (by decide +kernel) (by decide +kernel) (by decide +kernel) (fun _ _ _ h => h) (Or.inl ⟨by rfl, ?_⟩) trivial ?_
          rotate_left
          · intro w _; (try simp only [List.getElem_toArray, List.getElem_cons_zero, List.getElem_cons_succ]); go_simp; try with_reducible rfl
          try simp only [List.getElem_toArray, List.getElem_cons_zero, List.getElem_cons_succ, Act.put, List.setIfInBounds_toArray, List.set_cons_zero, List.set_cons_succ]
          refine wpAnyH_ready (rs := [6]) (by decide +kernel) (by simp) ?_
          refine AllReadyH.cons rfl (fun K hK => ?_) ?_
          · (try simp only [List.getElem_toArray, List.getElem_cons_zero, List.getElem_cons_succ])
            go_simp
            refine hK.out _ _ trivial (fun _ => ?_)
            clear hK K
            try simp only [List.getElem_toArray, List.getElem_cons_zero, List.getElem_cons_succ, Act.put, List.setIfInBounds_toArray, List.set_cons_zero, List.set_cons_succ]
            refine wpAnyH_done (by decide +kernel) ?_ _
            go_wp2_with fail
            go_meet
            exact ⟨gz8.out, gx8.out, gr8.out, hb8.out⟩
          exact AllReadyH.nil
        exact AllReadyH.nil
      exact AllReadyH.nil
    exact AllReadyH.nil
  obtain ⟨gz0, gx0, gr0, hb0⟩ := hcut
  clear gx gz gr hb hs
  have gz := Lib.hid gz0
  have gx := Lib.hid gx0
  have gr := Lib.hid gr0
  have hb := Lib.hid hb0
  clear gz0 gx0 gr0 hb0
  have hs := hb.out.size
  obtain ⟨cx0, cx1, cx2⟩ := gx.out.all
  dsimp only at cx0 cx1 cx2
  go_wp2_with fail
  refine (cd _ _ gr.out).on.mono ?_
  rintro e w9 ⟨rfl, rfl⟩
  go_wp2_with fail
  refine (cf.on _).mono ?_
  rintro e w20 ⟨rfl, hb20⟩
  replace gz := Lib.hid (isN_of hb20 gz.out)
  replace gr := Lib.hid (isR_of hb20 gr.out)
  replace gx := Lib.hid (isN_of hb20 gx.out)
  replace hb := Lib.hid (hb.out.trans (hb20.mono hs))
  clear hs hb20
  have hs := hb.out.size
  clear cx0 cx1 cx2
  obtain ⟨z0, z1, z2⟩ := gz.out.all
  have zf := gz.out.f
  obtain ⟨r0, r1, r2, hfin⟩ := last_set (w := w) (B := w.heap.size) gz.out ⟨false, 0, 0⟩ hb.out (by omega)
  dsimp only at r0 r1 r2 z0 z1 z2 hfin
  replace hfin := Lib.hid hfin
  clear gz gx gr hb
  go_wp2_with fail
  (try simp only [Exit.inBlock, Exit.then])
  refine bodyPost_ret (by simp [results, Try.results9, go_sem, r0, r1, r2]; try rfl) rfl ?_
  exact ⟨rfl, hfin.out⟩

set_option maxRecDepth 100000 in
set_option maxHeartbeats 8000000 in
theorem get_M2 (k sz n : Int) (s nm : ByteArray) (rest : List UInt8) (bad : Bool) (G : WI) (u : Int) (P ye ze : Int) (Y Z : WI) (ci : Ret 32 #[.int .i64 k] (.bool true)) (cs : Ret 15 #[.int .i64 k] (.int .i64 sz))
    (cn : ∀ (w : World) (b : Nat), IsR 85 w b (byts s) false → Answers 35 #[.pointer (some ⟨b, 0, none⟩), .int .i64 sz] (.int .u64 n) 85 w b rest bad)
    (cw : Ret 34 #[.int .u64 n] (wv ⟨false, 0, n⟩)) (ca : Ret 36 #[.int .i64 k] (.agg #[.string nm, .int .i64 sz, .bool true]))
    (cd : ∀ (w : World) (b : Nat), IsR 85 w b rest bad → Quiet 38 #[.pointer (some ⟨b, 0, none⟩)] (.bool true) w)
    (cf : Ret 21 #[.int .i64 k, wv Z] (.bool true)) (cg : Ret 18 #[.int .i64 k] (wv G)) (c2 : Ret 30 #[wv ⟨false, 0, n⟩, wv G] (.int .i64 u)) (d1 : decide (0 < u) = true) (hz0 : 0 ≤ sz) (hz1 : sz ≤ 8) (cp : Ret 37 #[.int .i64 (sz * 8)] (.int .u64 P)) (cwp : Ret 34 #[.int .u64 P] (wv ⟨false, 0, P⟩))
    (cs1 : Ret 28 #[wv ⟨false, 0, n⟩, wv ⟨false, 0, P⟩] (.tuple #[wv Y, .int .i64 ye])) (c1 : Ret 27 #[.int .i64 1] (wv ⟨false, 0, 1⟩))
    (cs2 : Ret 28 #[wv Y, wv ⟨false, 0, 1⟩] (.tuple #[wv Z, .int .i64 ze])) (w : World) :
    Calls Try.prog 9 #[.int .i64 k, .string s] w fun e w' => e = .returned (.tuple #[wv Z, .int .i64 0]) ∧ Below w.heap.size w w' := by
  obtain ⟨Gn, Gh, Gl⟩ := G
  obtain ⟨Yn, Yh, Yl⟩ := Y
  obtain ⟨Zn, Zh, Zl⟩ := Z
  have hw8 : IntKind.i64.wrap (sz * 8) = sz * 8 := by simp [IntKind.wrap, IntKind.bits, IntKind.signed]; omega
  rw [← hw8] at cp
  clear hw8
  unfold wv at *
  dsimp only at *
  go_enter Try.func9, Try.ntmps9
  go_wp2_with fail
  refine (ci.on _).mono ?_
  rintro e w1 ⟨rfl, hb1⟩
  obtain ⟨gz, hb⟩ := one_new (x := ⟨false, 0, 0⟩) hb1
  have hs := hb.size
  clear hb1
  replace gz := Lib.hid gz
  replace hb := Lib.hid hb
  go_wp2_with fail
  refine (cs.on _).mono ?_
  rintro e w2 ⟨rfl, hb2⟩
  replace gz := Lib.hid (isN_of hb2 gz.out)
  replace hb := Lib.hid (hb.out.trans (hb2.mono hs))
  clear hs hb2
  have hs := hb.out.size
  go_wp2_with fail
  refine (read_c _ _).mono ?_
  rintro e w3 ⟨rfl, rfl⟩
  have hr3 := Lib.hid (show IsR 85 (w2.alloc (.cells #[.string s, .bool false] 85)) w2.heap.size (byts s) false from by have h := IsR.new w2 85 (byts s); rwa [text_byts] at h)
  have ltz := gz.out.lt
  replace gz := Lib.hid (gz.out.alloc (.cells #[.string s, .bool false] 85))
  replace hb := Lib.hid (hb.out.alloc hs (.cells #[.string s, .bool false] 85))
  go_wp2_with fail
  refine Calls.mono (cn _ _ hr3.out) ?_
  rintro e w4 ⟨rfl, gr, hg⟩
  replace gr := Lib.hid gr
  replace gz := Lib.hid (isN_grown gz.out hg (by omega))
  replace hb := Lib.hid (hb.out.grown hg (by rw [size_alloc]; omega) (fun q hq => by rw [← Option.some.inj hq]; exact hs))
  clear hs hg hr3
  have hs := hb.out.size
  have ltr := gr.out.lt
  go_wp2_with fail
  refine (cw.on _).mono ?_
  rintro e w5 ⟨rfl, hb5⟩
  replace gz := Lib.hid (isN_of hb5 gz.out)
  replace gr := Lib.hid (isR_of hb5 gr.out)
  replace hb := Lib.hid (hb.out.trans (hb5.mono hs))
  clear hs hb5
  have hs := hb.out.size
  have hnz := gz.out.lt
  have hnr := gr.out.lt
  replace gz := Lib.hid (gz.out.alloc (oN ⟨false, 0, n⟩))
  replace gr := Lib.hid (gr.out.alloc (oN ⟨false, 0, n⟩))
  have gx := Lib.hid (IsN.new w5 ⟨false, 0, n⟩)
  replace hb := Lib.hid (hb.out.alloc hs (oN ⟨false, 0, n⟩))
  clear hs
  have hs := hb.out.size
  have hfd := field_sign nm sz true
  replace hb := Lib.hid (below_drewed hb.out)
  clear hs
  have hs := hb.out.size
  obtain ⟨cx0, cx1, cx2⟩ := gx.out.all
  dsimp only at cx0 cx1 cx2
  go_wp2_with fail
  refine wp_region_held_at (S := fun w1 => w1.cell? ⟨w5.heap.size, 0, none⟩ = some (.bool false) ∧ w1.cell? ⟨w5.heap.size, 1, none⟩ = some (.int .u64 0) ∧ w1.cell? ⟨w5.heap.size, 2, none⟩ = some (.int .u64 n)) 10 rfl (by kernel_rfl) (by go_keep) (fun hH => ?_)
  refine wpAnyH_take (i := 0) (v := ?_) rfl (by decide +kernel) (by decide +kernel) (by decide +kernel) (fun _ _ _ h => h) (Or.inl ⟨by rfl, ?_⟩) (by assumption) ?_
  rotate_left
  · intro w1 hSw; (try dsimp only at hSw); (try simp only [List.getElem_toArray, List.getElem_cons_zero]); go_simp; try with_reducible rfl
  try simp only [List.getElem_toArray, List.getElem_cons_zero, Act.put, List.setIfInBounds_toArray, List.set_cons_zero, List.set_cons_succ]
  refine wpAnyH_ready (rs := [1]) (by decide +kernel) (by simp) ?_
  refine AllReadyH.cons rfl (fun K hK => ?_) AllReadyH.nil
  (try simp only [List.getElem_toArray, List.getElem_cons_zero, List.getElem_cons_succ])
  go_simp
  refine (ca.on _).mono ?_
  rintro e wr ⟨rfl, hbr⟩
  have hb2 := Lib.hid (hb.out.trans (hbr.mono hs))
  clear hb hs
  have hb := hb2
  clear hb2
  have hs := hb.out.size
  have gg := Lib.hid (isN_of hbr gz.out)
  clear gz
  have gz := gg
  clear gg
  have gg := Lib.hid (isR_of hbr gr.out)
  clear gr
  have gr := gg
  clear gg
  have gg := Lib.hid (isN_of hbr gx.out)
  clear gx
  have gx := gg
  clear gg
  clear hH hbr cx0 cx1 cx2
  obtain ⟨cx0, cx1, cx2⟩ := gx.out.all
  dsimp only at cx0 cx1 cx2
  go_simp
  refine hK.out _ _ (by go_keep) (fun hH => ?_)
  clear hK K
  try simp only [List.getElem_toArray, List.getElem_cons_zero, List.getElem_cons_succ, Act.put, List.setIfInBounds_toArray, List.set_cons_zero, List.set_cons_succ]
  refine wpAnyH_take (i := 2) (v := ?_) rfl (by decide +kernel) (by decide +kernel) (by decide +kernel) (fun _ _ _ h => h) (Or.inl ⟨by rfl, ?_⟩) (by assumption) ?_
  rotate_left
  · intro w1 hSw; (try dsimp only at hSw); (try simp only [List.getElem_toArray, List.getElem_cons_zero, List.getElem_cons_succ]); go_simp; try with_reducible rfl
  try simp only [List.getElem_toArray, List.getElem_cons_zero, List.getElem_cons_succ, Act.put, List.setIfInBounds_toArray, List.set_cons_zero, List.set_cons_succ]
  refine wpAnyH_take (i := 3) (v := ?_) rfl (by decide +kernel) (by decide +kernel) (by decide +kernel) (fun _ _ _ h => h) (Or.inl ⟨by rfl, ?_⟩) (by assumption) ?_
  rotate_left
  · intro w1 hSw; (try dsimp only at hSw); (try simp only [List.getElem_toArray, List.getElem_cons_zero, List.getElem_cons_succ]); go_simp; try with_reducible rfl
  try simp only [List.getElem_toArray, List.getElem_cons_zero, List.getElem_cons_succ, Act.put, List.setIfInBounds_toArray, List.set_cons_zero, List.set_cons_succ]
  refine wpAnyH_take (i := 4) (v := ?_) rfl (by decide +kernel) (by decide +kernel) (by decide +kernel) (fun _ _ _ h => h) (Or.inl ⟨by rfl, ?_⟩) (by assumption) ?_
  rotate_left
  · intro w1 hSw; (try dsimp only at hSw); (try simp only [List.getElem_toArray, List.getElem_cons_zero, List.getElem_cons_succ]); go_simp; try with_reducible rfl
  try simp only [List.getElem_toArray, List.getElem_cons_zero, List.getElem_cons_succ, Act.put, List.setIfInBounds_toArray, List.set_cons_zero, List.set_cons_succ]
  refine wpAnyH_take (i := 5) (v := ?_) rfl (by decide +kernel) (by decide +kernel) (by decide +kernel) (fun _ _ _ h => h) (Or.inl ⟨by rfl, ?_⟩) (by assumption) ?_
  rotate_left
  · intro w1 hSw; (try dsimp only at hSw); (try simp only [List.getElem_toArray, List.getElem_cons_zero, List.getElem_cons_succ]); go_simp; try with_reducible rfl
  try simp only [List.getElem_toArray, List.getElem_cons_zero, List.getElem_cons_succ, Act.put, List.setIfInBounds_toArray, List.set_cons_zero, List.set_cons_succ]
  refine wpAnyH_ready (rs := [6]) (by decide +kernel) (by simp) ?_
  refine AllReadyH.cons rfl (fun K hK => ?_) AllReadyH.nil
  (try simp only [List.getElem_toArray, List.getElem_cons_zero, List.getElem_cons_succ])
  go_simp
  refine (cg.on _).mono ?_
  rintro e wr ⟨rfl, hbr⟩
  have hb2 := Lib.hid (hb.out.trans (hbr.mono hs))
  clear hb hs
  have hb := hb2
  clear hb2
  have hs := hb.out.size
  have gg := Lib.hid (isN_of hbr gz.out)
  clear gz
  have gz := gg
  clear gg
  have gg := Lib.hid (isR_of hbr gr.out)
  clear gr
  have gr := gg
  clear gg
  have gg := Lib.hid (isN_of hbr gx.out)
  clear gx
  have gx := gg
  clear gg
  clear hH hbr cx0 cx1 cx2
  obtain ⟨cx0, cx1, cx2⟩ := gx.out.all
  dsimp only at cx0 cx1 cx2
  go_simp
  refine hK.out _ _ (by go_keep) (fun hH => ?_)
  clear hK K
  try simp only [List.getElem_toArray, List.getElem_cons_zero, List.getElem_cons_succ, Act.put, List.setIfInBounds_toArray, List.set_cons_zero, List.set_cons_succ]
  refine wpAnyH_ready (rs := [7]) (by decide +kernel) (by simp) ?_
  refine AllReadyH.cons rfl (fun K hK => ?_) AllReadyH.nil
  (try simp only [List.getElem_toArray, List.getElem_cons_zero, List.getElem_cons_succ])
  go_simp
  refine (c2.on _).mono ?_
  rintro e wr ⟨rfl, hbr⟩
  have hb2 := Lib.hid (hb.out.trans (hbr.mono hs))
  clear hb hs
  have hb := hb2
  clear hb2
  have hs := hb.out.size
  have gg := Lib.hid (isN_of hbr gz.out)
  clear gz
  have gz := gg
  clear gg
  have gg := Lib.hid (isR_of hbr gr.out)
  clear gr
  have gr := gg
  clear gg
  have gg := Lib.hid (isN_of hbr gx.out)
  clear gx
  have gx := gg
  clear gg
  clear hH hbr cx0 cx1 cx2
  obtain ⟨cx0, cx1, cx2⟩ := gx.out.all
  dsimp only at cx0 cx1 cx2
  go_simp
  refine hK.out _ _ (by go_keep) (fun hH => ?_)
  clear hK K
  try simp only [List.getElem_toArray, List.getElem_cons_zero, List.getElem_cons_succ, Act.put, List.setIfInBounds_toArray, List.set_cons_zero, List.set_cons_succ]
  refine wpAnyH_take (i := 8) (v := ?_) rfl (by decide +kernel) (by decide +kernel) (by decide +kernel) (fun _ _ _ h => h) (Or.inl ⟨by rfl, ?_⟩) (by assumption) ?_
  rotate_left
  · intro w1 hSw; (try dsimp only at hSw); (try simp only [List.getElem_toArray, List.getElem_cons_zero, List.getElem_cons_succ]); go_simp; try with_reducible rfl
  try simp only [List.getElem_toArray, List.getElem_cons_zero, List.getElem_cons_succ, Act.put, List.setIfInBounds_toArray, List.set_cons_zero, List.set_cons_succ]
  refine wpAnyH_take (i := 9) (v := ?_) rfl (by decide +kernel) (by decide +kernel) (by decide +kernel) (fun _ _ _ h => h) (Or.inl ⟨by rfl, ?_⟩) (by assumption) ?_
  rotate_left
  · intro w1 hSw; (try dsimp only at hSw); (try simp only [List.getElem_toArray, List.getElem_cons_zero, List.getElem_cons_succ]); go_simp; try with_reducible rfl
  try simp only [List.getElem_toArray, List.getElem_cons_zero, List.getElem_cons_succ, Act.put, List.setIfInBounds_toArray, List.set_cons_zero, List.set_cons_succ]
  refine wpAnyH_done (by decide +kernel) ?_ _
  clear hH
  clear cx0 cx1 cx2
  go_upto_region 7 with fail
  go_cut [] (fun wx => IsN wx w.heap.size ⟨false, 0, 0⟩ ∧ IsN wx w5.heap.size ⟨Yn, Yh, Yl⟩ ∧ IsR 85 wx w2.heap.size rest bad ∧ Below w.heap.size w wx)
  case first =>
    obtain ⟨x0, x1, x2⟩ := gx.out.drew.all
    dsimp only at x0 x1 x2
    replace gx := Lib.hid gx.out.drew
    replace gz := Lib.hid gz.out.drew
    replace gr := Lib.hid gr.out.drew
    replace hb := Lib.hid (below_drewed hb.out)
    clear hs
    have hs := hb.out.size
    refine wp_region_held_at (S := fun _ => True) 10 rfl (by kernel_rfl) trivial (fun _ => ?_)
    refine wpAnyH_take (i := 1) (v := ?_) rfl (by decide +kernel) (by decide +kernel) (by decide +kernel) (fun _ _ _ h => h) (Or.inl ⟨by rfl, ?_⟩) trivial ?_
    rotate_left
    · intro w _; (try simp only [List.getElem_toArray, List.getElem_cons_zero, List.getElem_cons_succ]); go_simp; try with_reducible rfl
    try simp only [List.getElem_toArray, List.getElem_cons_zero, List.getElem_cons_succ, Act.put, List.setIfInBounds_toArray, List.set_cons_zero, List.set_cons_succ]
    refine wpAnyH_take (i := 2) (v := ?_) rfl (by decide +kernel) (by decide +kernel) (by decide +kernel) (fun _ _ _ h => h) (Or.inl ⟨by rfl, ?_⟩) trivial ?_
    rotate_left
    · intro w _; (try simp only [List.getElem_toArray, List.getElem_cons_zero, List.getElem_cons_succ]); go_simp; try with_reducible rfl
    try simp only [List.getElem_toArray, List.getElem_cons_zero, List.getElem_cons_succ, Act.put, List.setIfInBounds_toArray, List.set_cons_zero, List.set_cons_succ]
    refine wpAnyH_ready (rs := [0, 3]) (by decide +kernel) (by simp) ?_
    refine AllReadyH.cons rfl (fun K hK => ?_) ?_
    · (try simp only [List.getElem_toArray, List.getElem_cons_zero])
      go_simp
      refine hK.out _ _ trivial (fun _ => ?_)
      clear hK K
      try simp only [List.getElem_toArray, List.getElem_cons_zero, List.getElem_cons_succ, Act.put, List.setIfInBounds_toArray, List.set_cons_zero, List.set_cons_succ]
      refine wpAnyH_ready (rs := [3]) (by decide +kernel) (by simp) ?_
      refine AllReadyH.cons rfl (fun K hK => ?_) ?_
      · (try simp only [List.getElem_toArray, List.getElem_cons_zero, List.getElem_cons_succ])
        go_simp
        refine (cp.on _).mono ?_
        rintro e wq ⟨rfl, hbq⟩
        have gx9 := Lib.hid (isN_of hbq gx.out)
        have gz9 := Lib.hid (isN_of hbq gz.out)
        have gr9 := Lib.hid (isR_of hbq gr.out)
        have hb9 := Lib.hid (hb.out.trans (hbq.mono hs))
        clear gx gz gr hb hs x0 x1 x2
        have gx := gx9
        have gz := gz9
        have gr := gr9
        have hb := hb9
        clear gx9 gz9 gr9 hb9 hbq
        have hs := hb.out.size
        obtain ⟨x0, x1, x2⟩ := gx.out.all
        dsimp only at x0 x1 x2
        go_simp
        refine hK.out _ _ trivial (fun _ => ?_)
        clear hK K
        try simp only [List.getElem_toArray, List.getElem_cons_zero, List.getElem_cons_succ, Act.put, List.setIfInBounds_toArray, List.set_cons_zero, List.set_cons_succ]
        refine wpAnyH_ready (rs := [4]) (by decide +kernel) (by simp) ?_
        refine AllReadyH.cons rfl (fun K hK => ?_) ?_
        · (try simp only [List.getElem_toArray, List.getElem_cons_zero, List.getElem_cons_succ])
          go_simp
          refine (cwp.on _).mono ?_
          rintro e wq ⟨rfl, hbq⟩
          have gx9 := Lib.hid (isN_of hbq gx.out)
          have gz9 := Lib.hid (isN_of hbq gz.out)
          have gr9 := Lib.hid (isR_of hbq gr.out)
          have hb9 := Lib.hid (hb.out.trans (hbq.mono hs))
          clear gx gz gr hb hs x0 x1 x2
          have gx := gx9
          have gz := gz9
          have gr := gr9
          have hb := hb9
          clear gx9 gz9 gr9 hb9 hbq
          have hs := hb.out.size
          obtain ⟨x0, x1, x2⟩ := gx.out.all
          dsimp only at x0 x1 x2
          go_simp
          refine hK.out _ _ trivial (fun _ => ?_)
          clear hK K
          try simp only [List.getElem_toArray, List.getElem_cons_zero, List.getElem_cons_succ, Act.put, List.setIfInBounds_toArray, List.set_cons_zero, List.set_cons_succ]
          refine wpAnyH_ready (rs := [5]) (by decide +kernel) (by simp) ?_
          refine AllReadyH.cons rfl (fun K hK => ?_) ?_
          · (try simp only [List.getElem_toArray, List.getElem_cons_zero, List.getElem_cons_succ])
            go_simp
            refine (cs1.on _).mono ?_
            rintro e wq ⟨rfl, hbq⟩
            have gx9 := Lib.hid (isN_of hbq gx.out)
            have gz9 := Lib.hid (isN_of hbq gz.out)
            have gr9 := Lib.hid (isR_of hbq gr.out)
            have hb9 := Lib.hid (hb.out.trans (hbq.mono hs))
            clear gx gz gr hb hs x0 x1 x2
            have gx := gx9
            have gz := gz9
            have gr := gr9
            have hb := hb9
            clear gx9 gz9 gr9 hb9 hbq
            have hs := hb.out.size
            obtain ⟨x0, x1, x2⟩ := gx.out.all
            dsimp only at x0 x1 x2
            have xf := gx.out.f
            have gx8 := Lib.hid (gx.out.set Yn Yh Yl)
            have gz8 := Lib.hid (gz.out.set3_other (c := w5.heap.size) (v0 := .bool Yn) (v1 := .int .u64 Yh) (v2 := .int .u64 Yl) (by omega))
            have gr8 := Lib.hid (gr.out.set3_other (c := w5.heap.size) (v0 := .bool Yn) (v1 := .int .u64 Yh) (v2 := .int .u64 Yl) (by omega))
            have hb8 := Lib.hid (below_set3 hb.out (b := w5.heap.size) (by omega) (.bool Yn) (.int .u64 Yh) (.int .u64 Yl))
            clear gx gz gr hb hs
            go_simp
            refine hK.out _ _ trivial (fun _ => ?_)
            clear hK K
            try simp only [List.getElem_toArray, List.getElem_cons_zero, List.getElem_cons_succ, Act.put, List.setIfInBounds_toArray, List.set_cons_zero, List.set_cons_succ]
            refine wpAnyH_take (i := 6) (v := ?_) rfl (by decide +kernel) (by decide +kernel) (by decide +kernel) (fun _ _ _ h => h) (Or.inl ⟨by rfl, ?_⟩) trivial ?_
            rotate_left
            · intro w _; (try simp only [List.getElem_toArray, List.getElem_cons_zero, List.getElem_cons_succ]); go_simp; try with_reducible rfl
            try simp only [List.getElem_toArray, List.getElem_cons_zero, List.getElem_cons_succ, Act.put, List.setIfInBounds_toArray, List.set_cons_zero, List.set_cons_succ]
            refine wpAnyH_take (i := 7) (v := ?_) rfl (by decide +kernel) (by decide +kernel) (by decide +kernel) (fun _ _ _ h => h) (Or.inl ⟨by rfl, ?_⟩) trivial ?_
            rotate_left
            · intro w _; (try simp only [List.getElem_toArray, List.getElem_cons_zero, List.getElem_cons_succ]); go_simp; try with_reducible rfl
            try simp only [List.getElem_toArray, List.getElem_cons_zero, List.getElem_cons_succ, Act.put, List.setIfInBounds_toArray, List.set_cons_zero, List.set_cons_succ]
            refine wpAnyH_take (i := 8) (v := ?_) rfl (by decide +kernel) (by decide +kernel) (by decide +kernel) (fun _ _ _ h => h) (Or.inl ⟨by rfl, ?_⟩) trivial ?_
            rotate_left
            · intro w _; (try simp only [List.getElem_toArray, List.getElem_cons_zero, List.getElem_cons_succ]); go_simp; try with_reducible rfl
            try simp only [List.getElem_toArray, List.getElem_cons_zero, List.getElem_cons_succ, Act.put, List.setIfInBounds_toArray, List.set_cons_zero, List.set_cons_succ]
            refine wpAnyH_ready (rs := [9]) (by decide +kernel) (by simp) ?_
            refine AllReadyH.cons rfl (fun K hK => ?_) ?_
            · (try simp only [List.getElem_toArray, List.getElem_cons_zero, List.getElem_cons_succ])
              go_simp
              refine hK.out _ _ trivial (fun _ => ?_)
              clear hK K
              try simp only [List.getElem_toArray, List.getElem_cons_zero, List.getElem_cons_succ, Act.put, List.setIfInBounds_toArray, List.set_cons_zero, List.set_cons_succ]
              refine wpAnyH_done (by decide +kernel) ?_ _
              go_wp2_with fail
              go_meet
              exact ⟨gz8.out, gx8.out, gr8.out, hb8.out⟩
            exact AllReadyH.nil
          exact AllReadyH.nil
        exact AllReadyH.nil
      exact AllReadyH.nil
    refine AllReadyH.cons rfl (fun K hK => ?_) ?_
    · (try simp only [List.getElem_toArray, List.getElem_cons_zero, List.getElem_cons_succ])
      go_simp
      refine (cp.on _).mono ?_
      rintro e wq ⟨rfl, hbq⟩
      have gx9 := Lib.hid (isN_of hbq gx.out)
      have gz9 := Lib.hid (isN_of hbq gz.out)
      have gr9 := Lib.hid (isR_of hbq gr.out)
      have hb9 := Lib.hid (hb.out.trans (hbq.mono hs))
      clear gx gz gr hb hs x0 x1 x2
      have gx := gx9
      have gz := gz9
      have gr := gr9
      have hb := hb9
      clear gx9 gz9 gr9 hb9 hbq
      have hs := hb.out.size
      obtain ⟨x0, x1, x2⟩ := gx.out.all
      dsimp only at x0 x1 x2
      go_simp
      refine hK.out _ _ trivial (fun _ => ?_)
      clear hK K
      try simp only [List.getElem_toArray, List.getElem_cons_zero, List.getElem_cons_succ, Act.put, List.setIfInBounds_toArray, List.set_cons_zero, List.set_cons_succ]
      refine wpAnyH_ready (rs := [0, 4]) (by decide +kernel) (by simp) ?_
      refine AllReadyH.cons rfl (fun K hK => ?_) ?_
      · (try simp only [List.getElem_toArray, List.getElem_cons_zero])
        go_simp
        refine hK.out _ _ trivial (fun _ => ?_)
        clear hK K
        try simp only [List.getElem_toArray, List.getElem_cons_zero, List.getElem_cons_succ, Act.put, List.setIfInBounds_toArray, List.set_cons_zero, List.set_cons_succ]
        refine wpAnyH_ready (rs := [4]) (by decide +kernel) (by simp) ?_
        refine AllReadyH.cons rfl (fun K hK => ?_) ?_
        · (try simp only [List.getElem_toArray, List.getElem_cons_zero, List.getElem_cons_succ])
          go_simp
          refine (cwp.on _).mono ?_
          rintro e wq ⟨rfl, hbq⟩
          have gx9 := Lib.hid (isN_of hbq gx.out)
          have gz9 := Lib.hid (isN_of hbq gz.out)
          have gr9 := Lib.hid (isR_of hbq gr.out)
          have hb9 := Lib.hid (hb.out.trans (hbq.mono hs))
          clear gx gz gr hb hs x0 x1 x2
          have gx := gx9
          have gz := gz9
          have gr := gr9
          have hb := hb9
          clear gx9 gz9 gr9 hb9 hbq
          have hs := hb.out.size
          obtain ⟨x0, x1, x2⟩ := gx.out.all
          dsimp only at x0 x1 x2
          go_simp
          refine hK.out _ _ trivial (fun _ => ?_)
          clear hK K
          try simp only [List.getElem_toArray, List.getElem_cons_zero, List.getElem_cons_succ, Act.put, List.setIfInBounds_toArray, List.set_cons_zero, List.set_cons_succ]
          refine wpAnyH_ready (rs := [5]) (by decide +kernel) (by simp) ?_
          refine AllReadyH.cons rfl (fun K hK => ?_) ?_
          · (try simp only [List.getElem_toArray, List.getElem_cons_zero, List.getElem_cons_succ])
            go_simp
            refine (cs1.on _).mono ?_
            rintro e wq ⟨rfl, hbq⟩
            have gx9 := Lib.hid (isN_of hbq gx.out)
            have gz9 := Lib.hid (isN_of hbq gz.out)
            have gr9 := Lib.hid (isR_of hbq gr.out)
            have hb9 := Lib.hid (hb.out.trans (hbq.mono hs))
            clear gx gz gr hb hs x0 x1 x2
            have gx := gx9
            have gz := gz9
            have gr := gr9
            have hb := hb9
            clear gx9 gz9 gr9 hb9 hbq
            have hs := hb.out.size
            obtain ⟨x0, x1, x2⟩ := gx.out.all
            dsimp only at x0 x1 x2
            have xf := gx.out.f
            have gx8 := Lib.hid (gx.out.set Yn Yh Yl)
            have gz8 := Lib.hid (gz.out.set3_other (c := w5.heap.size) (v0 := .bool Yn) (v1 := .int .u64 Yh) (v2 := .int .u64 Yl) (by omega))
            have gr8 := Lib.hid (gr.out.set3_other (c := w5.heap.size) (v0 := .bool Yn) (v1 := .int .u64 Yh) (v2 := .int .u64 Yl) (by omega))
            have hb8 := Lib.hid (below_set3 hb.out (b := w5.heap.size) (by omega) (.bool Yn) (.int .u64 Yh) (.int .u64 Yl))
            clear gx gz gr hb hs
            go_simp
            refine hK.out _ _ trivial (fun _ => ?_)
            clear hK K
            try simp only [List.getElem_toArray, List.getElem_cons_zero, List.getElem_cons_succ, Act.put, List.setIfInBounds_toArray, List.set_cons_zero, List.set_cons_succ]
            refine wpAnyH_take (i := 6) (v := ?_) rfl (by decide +kernel) (by decide +kernel) (by decide +kernel) (fun _ _ _ h => h) (Or.inl ⟨by rfl, ?_⟩) trivial ?_
            rotate_left
            · intro w _; (try simp only [List.getElem_toArray, List.getElem_cons_zero, List.getElem_cons_succ]); go_simp; try with_reducible rfl
            try simp only [List.getElem_toArray, List.getElem_cons_zero, List.getElem_cons_succ, Act.put, List.setIfInBounds_toArray, List.set_cons_zero, List.set_cons_succ]
            refine wpAnyH_take (i := 7) (v := ?_) rfl (by decide +kernel) (by decide +kernel) (by decide +kernel) (fun _ _ _ h => h) (Or.inl ⟨by rfl, ?_⟩) trivial ?_
            rotate_left
            · intro w _; (try simp only [List.getElem_toArray, List.getElem_cons_zero, List.getElem_cons_succ]); go_simp; try with_reducible rfl
            try simp only [List.getElem_toArray, List.getElem_cons_zero, List.getElem_cons_succ, Act.put, List.setIfInBounds_toArray, List.set_cons_zero, List.set_cons_succ]
            refine wpAnyH_take (i := 8) (v := ?_) rfl (by decide +kernel) (by decide +kernel) (by decide +kernel) (fun _ _ _ h => h) (Or.inl ⟨by rfl, ?_⟩) trivial ?_
            rotate_left
            · intro w _; (try simp only [List.getElem_toArray, List.getElem_cons_zero, List.getElem_cons_succ]); go_simp; try with_reducible rfl
            try simp only [List.getElem_toArray, List.getElem_cons_zero, List.getElem_cons_succ, Act.put, List.setIfInBounds_toArray, List.set_cons_zero, List.set_cons_succ]
            refine wpAnyH_ready (rs := [9]) (by decide +kernel) (by simp) ?_
            refine AllReadyH.cons rfl (fun K hK => ?_) ?_
            · (try simp only [List.getElem_toArray, List.getElem_cons_zero, List.getElem_cons_succ])
              go_simp
              refine hK.out _ _ trivial (fun _ => ?_)
              clear hK K
              try simp only [List.getElem_toArray, List.getElem_cons_zero, List.getElem_cons_succ, Act.put, List.setIfInBounds_toArray, List.set_cons_zero, List.set_cons_succ]
              refine wpAnyH_done (by decide +kernel) ?_ _
              go_wp2_with fail
              go_meet
              exact ⟨gz8.out, gx8.out, gr8.out, hb8.out⟩
            exact AllReadyH.nil
          exact AllReadyH.nil
        exact AllReadyH.nil
      refine AllReadyH.cons rfl (fun K hK => ?_) ?_
      · (try simp only [List.getElem_toArray, List.getElem_cons_zero, List.getElem_cons_succ])
        go_simp
        refine (cwp.on _).mono ?_
        rintro e wq ⟨rfl, hbq⟩
        have gx9 := Lib.hid (isN_of hbq gx.out)
        have gz9 := Lib.hid (isN_of hbq gz.out)
        have gr9 := Lib.hid (isR_of hbq gr.out)
        have hb9 := Lib.hid (hb.out.trans (hbq.mono hs))
        clear gx gz gr hb hs x0 x1 x2
        have gx := gx9
        have gz := gz9
        have gr := gr9
        have hb := hb9
        clear gx9 gz9 gr9 hb9 hbq
        have hs := hb.out.size
        obtain ⟨x0, x1, x2⟩ := gx.out.all
        dsimp only at x0 x1 x2
        go_simp
        refine hK.out _ _ trivial (fun _ => ?_)
        clear hK K
        try simp only [List.getElem_toArray, List.getElem_cons_zero, List.getElem_cons_succ, Act.put, List.setIfInBounds_toArray, List.set_cons_zero, List.set_cons_succ]
        refine wpAnyH_ready (rs := [0]) (by decide +kernel) (by simp) ?_
        refine AllReadyH.cons rfl (fun K hK => ?_) ?_
        · (try simp only [List.getElem_toArray, List.getElem_cons_zero])
          go_simp
          refine hK.out _ _ trivial (fun _ => ?_)
          clear hK K
          try simp only [List.getElem_toArray, List.getElem_cons_zero, List.getElem_cons_succ, Act.put, List.setIfInBounds_toArray, List.set_cons_zero, List.set_cons_succ]
          refine wpAnyH_ready (rs := [5]) (by decide +kernel) (by simp) ?_
          refine AllReadyH.cons rfl (fun K hK => ?_) ?_
          · (try simp only [List.getElem_toArray, List.getElem_cons_zero, List.getElem_cons_succ])
            go_simp
            refine (cs1.on _).mono ?_
            rintro e wq ⟨rfl, hbq⟩
            have gx9 := Lib.hid (isN_of hbq gx.out)
            have gz9 := Lib.hid (isN_of hbq gz.out)
            have gr9 := Lib.hid (isR_of hbq gr.out)
            have hb9 := Lib.hid (hb.out.trans (hbq.mono hs))
            clear gx gz gr hb hs x0 x1 x2
            have gx := gx9
            have gz := gz9
            have gr := gr9
            have hb := hb9
            clear gx9 gz9 gr9 hb9 hbq
            have hs := hb.out.size
            obtain ⟨x0, x1, x2⟩ := gx.out.all
            dsimp only at x0 x1 x2
            have xf := gx.out.f
            have gx8 := Lib.hid (gx.out.set Yn Yh Yl)
            have gz8 := Lib.hid (gz.out.set3_other (c := w5.heap.size) (v0 := .bool Yn) (v1 := .int .u64 Yh) (v2 := .int .u64 Yl) (by omega))
            have gr8 := Lib.hid (gr.out.set3_other (c := w5.heap.size) (v0 := .bool Yn) (v1 := .int .u64 Yh) (v2 := .int .u64 Yl) (by omega))
            have hb8 := Lib.hid (below_set3 hb.out (b := w5.heap.size) (by omega) (.bool Yn) (.int .u64 Yh) (.int .u64 Yl))
            clear gx gz gr hb hs
            go_simp
            refine hK.out _ _ trivial (fun _ => ?_)
            clear hK K
            try simp only [List.getElem_toArray, List.getElem_cons_zero, List.getElem_cons_succ, Act.put, List.setIfInBounds_toArray, List.set_cons_zero, List.set_cons_succ]
            refine wpAnyH_take (i := 6) (v := ?_) rfl (by decide +kernel) (by decide +kernel) (by decide +kernel) (fun _ _ _ h => h) (Or.inl ⟨by rfl, ?_⟩) trivial ?_
            rotate_left
            · intro w _; (try simp only [List.getElem_toArray, List.getElem_cons_zero, List.getElem_cons_succ]); go_simp; try with_reducible rfl
            try simp only [List.getElem_toArray, List.getElem_cons_zero, List.getElem_cons_succ, Act.put, List.setIfInBounds_toArray, List.set_cons_zero, List.set_cons_succ]
            refine wpAnyH_take (i := 7) (v := ?_) rfl (by decide +kernel) (by decide +kernel) (by decide +kernel) (fun _ _ _ h => h) (Or.inl ⟨by rfl, ?_⟩) trivial ?_
            rotate_left
            · intro w _; (try simp only [List.getElem_toArray, List.getElem_cons_zero, List.getElem_cons_succ]); go_simp; try with_reducible rfl
            try simp only [List.getElem_toArray, List.getElem_cons_zero, List.getElem_cons_succ, Act.put, List.setIfInBounds_toArray, List.set_cons_zero, List.set_cons_succ]
            refine wpAnyH_take (i := 8) (v := ?_) rfl (by decide +kernel) (by decide +kernel) (by decide +kernel) (fun _ _ _ h => h) (Or.inl ⟨by rfl, ?_⟩) trivial ?_
            rotate_left
            · intro w _; (try simp only [List.getElem_toArray, List.getElem_cons_zero, List.getElem_cons_succ]); go_simp; try with_reducible rfl
            try simp only [List.getElem_toArray, List.getElem_cons_zero, List.getElem_cons_succ, Act.put, List.setIfInBounds_toArray, List.set_cons_zero, List.set_cons_succ]
            refine wpAnyH_ready (rs := [9]) (by decide +kernel) (by simp) ?_
            refine AllReadyH.cons rfl (fun K hK => ?_) ?_
            · (try simp only [List.getElem_toArray, List.getElem_cons_zero, List.getElem_cons_succ])
              go_simp
              refine hK.out _ _ trivial (fun _ => ?_)
              clear hK K
              try simp only [List.getElem_toArray, List.getElem_cons_zero, List.getElem_cons_succ, Act.put, List.setIfInBounds_toArray, List.set_cons_zero, List.set_cons_succ]
              refine wpAnyH_done (by decide +kernel) ?_ _
              go_wp2_with fail
              go_meet
              exact ⟨gz8.out, gx8.out, gr8.out, hb8.out⟩
            exact AllReadyH.nil
          exact AllReadyH.nil
        exact AllReadyH.nil
      exact AllReadyH.nil
    exact AllReadyH.nil
  obtain ⟨gz0, gx0, gr0, hb0⟩ := hcut
  clear gx gz gr hb hs
  have gz := Lib.hid gz0
  have gx := Lib.hid gx0
  have gr := Lib.hid gr0
  have hb := Lib.hid hb0
  clear gz0 gx0 gr0 hb0
  have hs := hb.out.size
  go_upto_region 8 with fail
  go_cut [] (fun wx => IsN wx w.heap.size ⟨false, 0, 0⟩ ∧ IsN wx w5.heap.size ⟨Zn, Zh, Zl⟩ ∧ IsR 85 wx w2.heap.size rest bad ∧ Below w.heap.size w wx)
  case first =>
    obtain ⟨x0, x1, x2⟩ := gx.out.drew.all
    dsimp only at x0 x1 x2
    replace gx := Lib.hid gx.out.drew
    replace gz := Lib.hid gz.out.drew
    replace gr := Lib.hid gr.out.drew
    replace hb := Lib.hid (below_drewed hb.out)
    clear hs
    have hs := hb.out.size
    refine wp_region_held_at (S := fun _ => True) 7 rfl (by kernel_rfl) trivial (fun _ => ?_)
    refine wpAnyH_ready (rs := [0, 1]) (by decide +kernel) (by simp) ?_
    refine AllReadyH.cons rfl (fun K hK => ?_) ?_
    · (try simp only [List.getElem_toArray, List.getElem_cons_zero])
      go_simp
      refine hK.out _ _ trivial (fun _ => ?_)
      clear hK K
      try simp only [List.getElem_toArray, List.getElem_cons_zero, List.getElem_cons_succ, Act.put, List.setIfInBounds_toArray, List.set_cons_zero, List.set_cons_succ]
      refine wpAnyH_ready (rs := [1]) (by decide +kernel) (by simp) ?_
      refine AllReadyH.cons rfl (fun K hK => ?_) ?_
      · (try simp only [List.getElem_toArray, List.getElem_cons_zero, List.getElem_cons_succ])
        go_simp
        refine (c1.on _).mono ?_
        rintro e wq ⟨rfl, hbq⟩
        have gx9 := Lib.hid (isN_of hbq gx.out)
        have gz9 := Lib.hid (isN_of hbq gz.out)
        have gr9 := Lib.hid (isR_of hbq gr.out)
        have hb9 := Lib.hid (hb.out.trans (hbq.mono hs))
        clear gx gz gr hb hs x0 x1 x2
        have gx := gx9
        have gz := gz9
        have gr := gr9
        have hb := hb9
        clear gx9 gz9 gr9 hb9 hbq
        have hs := hb.out.size
        obtain ⟨x0, x1, x2⟩ := gx.out.all
        dsimp only at x0 x1 x2
        go_simp
        refine hK.out _ _ trivial (fun _ => ?_)
        clear hK K
        try simp only [List.getElem_toArray, List.getElem_cons_zero, List.getElem_cons_succ, Act.put, List.setIfInBounds_toArray, List.set_cons_zero, List.set_cons_succ]
        refine wpAnyH_ready (rs := [2]) (by decide +kernel) (by simp) ?_
        refine AllReadyH.cons rfl (fun K hK => ?_) ?_
        · (try simp only [List.getElem_toArray, List.getElem_cons_zero, List.getElem_cons_succ])
          go_simp
          refine (cs2.on _).mono ?_
          rintro e wq ⟨rfl, hbq⟩
          have gx9 := Lib.hid (isN_of hbq gx.out)
          have gz9 := Lib.hid (isN_of hbq gz.out)
          have gr9 := Lib.hid (isR_of hbq gr.out)
          have hb9 := Lib.hid (hb.out.trans (hbq.mono hs))
          clear gx gz gr hb hs x0 x1 x2
          have gx := gx9
          have gz := gz9
          have gr := gr9
          have hb := hb9
          clear gx9 gz9 gr9 hb9 hbq
          have hs := hb.out.size
          obtain ⟨x0, x1, x2⟩ := gx.out.all
          dsimp only at x0 x1 x2
          have xf := gx.out.f
          have gx8 := Lib.hid (gx.out.set Zn Zh Zl)
          have gz8 := Lib.hid (gz.out.set3_other (c := w5.heap.size) (v0 := .bool Zn) (v1 := .int .u64 Zh) (v2 := .int .u64 Zl) (by omega))
          have gr8 := Lib.hid (gr.out.set3_other (c := w5.heap.size) (v0 := .bool Zn) (v1 := .int .u64 Zh) (v2 := .int .u64 Zl) (by omega))
          have hb8 := Lib.hid (below_set3 hb.out (b := w5.heap.size) (by omega) (.bool Zn) (.int .u64 Zh) (.int .u64 Zl))
          clear gx gz gr hb hs
          go_simp
          refine hK.out _ _ trivial (fun _ => ?_)
          clear hK K
          try simp only [List.getElem_toArray, List.getElem_cons_zero, List.getElem_cons_succ, Act.put, List.setIfInBounds_toArray, List.set_cons_zero, List.set_cons_succ]
          refine wpAnyH_take (i := 3) (v := ?_) rfl (by decide +kernel) (by decide +kernel) (by decide +kernel) (fun _ _ _ h => h) (Or.inl ⟨by rfl, ?_⟩) trivial ?_
          rotate_left
          · intro w _; (try simp only [List.getElem_toArray, List.getElem_cons_zero, List.getElem_cons_succ]); go_simp; try with_reducible rfl
          try simp only [List.getElem_toArray, List.getElem_cons_zero, List.getElem_cons_succ, Act.put, List.setIfInBounds_toArray, List.set_cons_zero, List.set_cons_succ]
          refine wpAnyH_take (i := 4) (v := ?_) rfl (by decide +kernel) (by decide +kernel) (by decide +kernel) (fun _ _ _ h => h) (Or.inl ⟨by rfl, ?_⟩) trivial ?_
          rotate_left
          · intro w _; (try simp only [List.getElem_toArray, List.getElem_cons_zero, List.getElem_cons_succ]); go_simp; try with_reducible rfl
          try simp only [List.getElem_toArray, List.getElem_cons_zero, List.getElem_cons_succ, Act.put, List.setIfInBounds_toArray, List.set_cons_zero, List.set_cons_succ]
          refine wpAnyH_take (i := 5) (v := ?_) rfl (by decide +kernel) (by decide +kernel) (by decide +kernel) (fun _ _ _ h => h) (Or.inl ⟨by rfl, ?_⟩) trivial ?_
          rotate_left
          · intro w _; (try simp only [List.getElem_toArray, List.getElem_cons_zero, List.getElem_cons_succ]); go_simp; try with_reducible rfl
          try simp only [List.getElem_toArray, List.getElem_cons_zero, List.getElem_cons_succ, Act.put, List.setIfInBounds_toArray, List.set_cons_zero, List.set_cons_succ]
          refine wpAnyH_ready (rs := [6]) (by decide +kernel) (by simp) ?_
          refine AllReadyH.cons rfl (fun K hK => ?_) ?_
          · (try simp only [List.getElem_toArray, List.getElem_cons_zero, List.getElem_cons_succ])
            go_simp
            refine hK.out _ _ trivial (fun _ => ?_)
            clear hK K
            try simp only [List.getElem_toArray, List.getElem_cons_zero, List.getElem_cons_succ, Act.put, List.setIfInBounds_toArray, List.set_cons_zero, List.set_cons_succ]
            refine wpAnyH_done (by decide +kernel) ?_ _
            go_wp2_with fail
            go_meet
            exact ⟨gz8.out, gx8.out, gr8.out, hb8.out⟩
          exact AllReadyH.nil
        exact AllReadyH.nil
      exact AllReadyH.nil
    refine AllReadyH.cons rfl (fun K hK => ?_) ?_
    · (try simp only [List.getElem_toArray, List.getElem_cons_zero, List.getElem_cons_succ])
      go_simp
      refine (c1.on _).mono ?_
      rintro e wq ⟨rfl, hbq⟩
      have gx9 := Lib.hid (isN_of hbq gx.out)
      have gz9 := Lib.hid (isN_of hbq gz.out)
      have gr9 := Lib.hid (isR_of hbq gr.out)
      have hb9 := Lib.hid (hb.out.trans (hbq.mono hs))
      clear gx gz gr hb hs x0 x1 x2
      have gx := gx9
      have gz := gz9
      have gr := gr9
      have hb := hb9
      clear gx9 gz9 gr9 hb9 hbq
      have hs := hb.out.size
      obtain ⟨x0, x1, x2⟩ := gx.out.all
      dsimp only at x0 x1 x2
      go_simp
      refine hK.out _ _ trivial (fun _ => ?_)
      clear hK K
      try simp only [List.getElem_toArray, List.getElem_cons_zero, List.getElem_cons_succ, Act.put, List.setIfInBounds_toArray, List.set_cons_zero, List.set_cons_succ]
      refine wpAnyH_ready (rs := [0]) (by decide +kernel) (by simp) ?_
      refine AllReadyH.cons rfl (fun K hK => ?_) ?_
      · (try simp only [List.getElem_toArray, List.getElem_cons_zero])
        go_simp
        refine hK.out _ _ trivial (fun _ => ?_)
        clear hK K
        try simp only [List.getElem_toArray, List.getElem_cons_zero, List.getElem_cons_succ, Act.put, List.setIfInBounds_toArray, List.set_cons_zero, List.set_cons_succ]
        refine wpAnyH_ready (rs := [2]) (by decide +kernel) (by simp) ?_
        refine AllReadyH.cons rfl (fun K hK => ?_) ?_
        · (try simp only [List.getElem_toArray, List.getElem_cons_zero, List.getElem_cons_succ])
          go_simp
          refine (cs2.on _).mono ?_
          rintro e wq ⟨rfl, hbq⟩
          have gx9 := Lib.hid (isN_of hbq gx.out)
          have gz9 := Lib.hid (isN_of hbq gz.out)
          have gr9 := Lib.hid (isR_of hbq gr.out)
          have hb9 := Lib.hid (hb.out.trans (hbq.mono hs))
          clear gx gz gr hb hs x0 x1 x2
          have gx := gx9
          have gz := gz9
          have gr := gr9
          have hb := hb9
          clear gx9 gz9 gr9 hb9 hbq
          have hs := hb.out.size
          obtain ⟨x0, x1, x2⟩ := gx.out.all
          dsimp only at x0 x1 x2
          have xf := gx.out.f
          have gx8 := Lib.hid (gx.out.set Zn Zh Zl)
          have gz8 := Lib.hid (gz.out.set3_other (c := w5.heap.size) (v0 := .bool Zn) (v1 := .int .u64 Zh) (v2 := .int .u64 Zl) (by omega))
          have gr8 := Lib.hid (gr.out.set3_other (c := w5.heap.size) (v0 := .bool Zn) (v1 := .int .u64 Zh) (v2 := .int .u64 Zl) (by omega))
          have hb8 := Lib.hid (below_set3 hb.out (b := w5.heap.size) (by omega) (.bool Zn) (.int .u64 Zh) (.int .u64 Zl))
          clear gx gz gr hb hs
          go_simp
          refine hK.out _ _ trivial (fun _ => ?_)
          clear hK K
          try simp only [List.getElem_toArray, List.getElem_cons_zero, List.getElem_cons_succ, Act.put, List.setIfInBounds_toArray, List.set_cons_zero, List.set_cons_succ]
          refine wpAnyH_take (i := 3) (v := ?_) rfl (by decide +kernel) (by decide +kernel) (by decide +kernel) (fun _ _ _ h => h) (Or.inl ⟨by rfl, ?_⟩) trivial ?_
          rotate_left
          · intro w _; (try simp only [List.getElem_toArray, List.getElem_cons_zero, List.getElem_cons_succ]); go_simp; try with_reducible rfl
          try simp only [List.getElem_toArray, List.getElem_cons_zero, List.getElem_cons_succ, Act.put, List.setIfInBounds_toArray, List.set_cons_zero, List.set_cons_succ]
          refine wpAnyH_take (i := 4) (v := ?_) rfl (by decide +kernel) (by decide +kernel) (by decide +kernel) (fun _ _ _ h => h) (Or.inl ⟨by rfl, ?_⟩) trivial ?_
          rotate_left
          · intro w _; (try simp only [List.getElem_toArray, List.getElem_cons_zero, List.getElem_cons_succ]); go_simp; try with_reducible rfl
          try simp only [List.getElem_toArray, List.getElem_cons_zero, List.getElem_cons_succ, Act.put, List.setIfInBounds_toArray, List.set_cons_zero, List.set_cons_succ]
          refine wpAnyH_take (i := 5) (v := ?_) rfl (by decide +kernel) (by decide +kernel) (by decide +kernel) (fun _ _ _ h => h) (Or.inl ⟨by rfl, ?_⟩) trivial ?_
          rotate_left
          · intro w _; (try simp only [List.getElem_toArray, List.getElem_cons_zero, List.getElem_cons_succ]); go_simp; try with_reducible rfl
          try simp only [List.getElem_toArray, List.getElem_cons_zero, List.getElem_cons_succ, Act.put, List.setIfInBounds_toArray, List.set_cons_zero, List.set_cons_succ]
          refine wpAnyH_ready (rs := [6]) (by decide +kernel) (by simp) ?_
          refine AllReadyH.cons rfl (fun K hK => ?_) ?_
          · (try simp only [List.getElem_toArray, List.getElem_cons_zero, List.getElem_cons_succ])
            go_simp
            refine hK.out _ _ trivial (fun _ => ?_)
            clear hK K
            try simp only [List.getElem_toArray, List.getElem_cons_zero, List.getElem_cons_succ, Act.put, List.setIfInBounds_toArray, List.set_cons_zero, List.set_cons_succ]
            refine wpAnyH_done (by decide +kernel) ?_ _
            go_wp2_with fail
            go_meet
            exact ⟨gz8.out, gx8.out, gr8.out, hb8.out⟩
          exact AllReadyH.nil
        exact AllReadyH.nil
      exact AllReadyH.nil
    exact AllReadyH.nil
  obtain ⟨gz0, gx0, gr0, hb0⟩ := hcut
  clear gx gz gr hb hs
  have gz := Lib.hid gz0
  have gx := Lib.hid gx0
  have gr := Lib.hid gr0
  have hb := Lib.hid hb0
  clear gz0 gx0 gr0 hb0
  have hs := hb.out.size
  obtain ⟨cx0, cx1, cx2⟩ := gx.out.all
  dsimp only at cx0 cx1 cx2
  go_wp2_with fail
  refine (cd _ _ gr.out).on.mono ?_
  rintro e w9 ⟨rfl, rfl⟩
  go_wp2_with fail
  refine (cf.on _).mono ?_
  rintro e w20 ⟨rfl, hb20⟩
  replace gz := Lib.hid (isN_of hb20 gz.out)
  replace gr := Lib.hid (isR_of hb20 gr.out)
  replace gx := Lib.hid (isN_of hb20 gx.out)
  replace hb := Lib.hid (hb.out.trans (hb20.mono hs))
  clear hs hb20
  have hs := hb.out.size
  clear cx0 cx1 cx2
  obtain ⟨cx0, cx1, cx2⟩ := gx.out.all
  dsimp only at cx0 cx1 cx2
  obtain ⟨z0, z1, z2⟩ := gz.out.all
  have zf := gz.out.f
  obtain ⟨r0, r1, r2, hfin⟩ := last_set (w := w) (B := w.heap.size) gz.out ⟨Zn, Zh, Zl⟩ hb.out (by omega)
  dsimp only at r0 r1 r2 z0 z1 z2 hfin
  replace hfin := Lib.hid hfin
  clear gz gx gr hb
  go_wp2_with fail
  (try simp only [Exit.inBlock, Exit.then])
  refine bodyPost_ret (by simp [results, Try.results9, go_sem, r0, r1, r2]; try rfl) rfl ?_
  exact ⟨rfl, hfin.out⟩
end Go.Proofs.Ytbfigpollacngaa
