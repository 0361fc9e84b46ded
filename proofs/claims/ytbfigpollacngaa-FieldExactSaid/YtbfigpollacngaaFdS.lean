/- the walk over FieldSpan -/
import Derived.Test.YtbfigpollacngaaFdOl
namespace Go.Proofs.Ytbfigpollacngaa
open Go.RowKit
open Rf
open Wide
attribute [local go_sem ↓] Go.wp_at_zero Go.wp_at_succ

set_option maxRecDepth 100000 in
set_option maxHeartbeats 8000000 in
theorem fieldSpan_b (k : Int) (G L D : WI) (sz : Nat) (Wn Mn : Nat → WI)
    (cg : Ret 18 #[.int .i64 k] (wv G)) (cl : Ret 17 #[.int .i64 k] (wv L)) (cd : Ret 28 #[wv G, wv L] (.tuple #[wv D, .int .i64 0]))
    (c0 : Ret 27 #[.int .i64 0] (wv (Wn 0))) (c256 : Ret 27 #[.int .i64 256] (wv ⟨false, 0, 256⟩)) (c255 : Ret 27 #[.int .i64 255] (wv ⟨false, 0, 255⟩)) (c1 : Ret 27 #[.int .i64 1] (wv ⟨false, 0, 1⟩))
    (cs : Ret 15 #[.int .i64 k] (.int .i64 (sz : Int))) (hsz : sz ≤ 8) (cm : ∀ j, j < sz → Ret 31 #[wv (Wn j), wv ⟨false, 0, 256⟩] (.tuple #[wv (Mn j), .int .i64 0]))
    (ca : ∀ j, j < sz → Ret 26 #[wv (Mn j), wv ⟨false, 0, 255⟩] (.tuple #[wv (Wn (j + 1)), .int .i64 0])) (hk : k = 1) (hD : D = ⟨false, 0, 1⟩) (w : World) :
    Calls Try.prog 7 #[.int .i64 k] w fun e w' => e = .returned (.bool true) ∧ Below w.heap.size w w' := by
  subst hD
  obtain ⟨Gn, Gh, Gl⟩ := G
  obtain ⟨Ln, Lh, Ll⟩ := L
  replace hk := Lib.hid hk
  replace cm := Lib.hid cm
  replace ca := Lib.hid ca
  obtain ⟨Z, hZ⟩ : ∃ Z, Wn 0 = Z := ⟨_, rfl⟩
  rw [hZ] at c0
  replace hZ := Lib.hid hZ
  obtain ⟨Zn, Zh, Zl⟩ := Z
  unfold wv at cg cl cd c0 c256 c255 c1
  dsimp only at cg cl cd c0 c256 c255 c1
  go_enter Try.func7, Try.ntmps7
  have hb := Lib.hid (Below.refl w.heap.size w)
  have hs := hb.out.size
  go_wp2_with fail
  refine (awake_c.on _).mono ?_
  rintro e w1 ⟨rfl, hb1⟩
  replace hb := Lib.hid (hb.out.trans (hb1.mono hs))
  clear hs hb1
  have hs := hb.out.size
  go_wp2_with fail
  refine (cg.on _).mono ?_
  rintro e w2 ⟨rfl, hb2⟩
  replace hb := Lib.hid (hb.out.trans (hb2.mono hs))
  clear hs hb2
  have hs := hb.out.size
  go_wp2_with fail
  refine (cl.on _).mono ?_
  rintro e w3 ⟨rfl, hb3⟩
  replace hb := Lib.hid (hb.out.trans (hb3.mono hs))
  clear hs hb3
  have hs := hb.out.size
  go_wp2_with fail
  refine (cd.on _).mono ?_
  rintro e w4 ⟨rfl, hb4⟩
  replace hb := Lib.hid (hb.out.trans (hb4.mono hs))
  clear hs hb4
  have hs := hb.out.size
  have gd := Lib.hid (IsN.new w4 ⟨false, 0, 1⟩)
  replace hb := Lib.hid (hb.out.alloc hs (oN ⟨false, 0, 1⟩))
  clear hs
  have hs := hb.out.size
  go_wp2_with fail
  refine (c0.on _).mono ?_
  rintro e w5 ⟨rfl, hb5⟩
  replace gd := Lib.hid (isN_of hb5 gd.out)
  replace hb := Lib.hid (hb.out.trans (hb5.mono hs))
  clear hs hb5
  have hs := hb.out.size
  have hne := gd.out.lt
  have hle := hs
  replace gd := Lib.hid (gd.out.alloc (oN ⟨Zn, Zh, Zl⟩))
  have gv := Lib.hid (IsN.new w5 ⟨Zn, Zh, Zl⟩)
  replace hb := Lib.hid (hb.out.alloc hs (oN ⟨Zn, Zh, Zl⟩))
  clear hs
  have hs := hb.out.size
  go_wp2_with fail
  go_loopw [6] (fun i wr => ∃ j : Nat, j ≤ sz ∧ i = .int .i64 j ∧ IsN wr w4.heap.size ⟨false, 0, 1⟩ ∧ IsN wr w5.heap.size (Wn j) ∧ Below w.heap.size w wr) (fun i _ => sz - (intOf i).toNat)
  case atStart => exact ⟨0, Nat.zero_le _, rfl, gd.out, by rw [hZ.out]; exact gv.out, hb.out⟩
  case round =>
    clear gd gv hb hs
    obtain ⟨j, hj, rfl, gd, gv, hb⟩ := hrel
    replace gd := Lib.hid gd
    replace hb := Lib.hid hb
    have hs := hb.out.size
    by_cases hlt : j < sz
    · have cmj := cm.out j hlt
      have caj := ca.out j hlt
      obtain ⟨X, hX⟩ : ∃ X, Wn j = X := ⟨_, rfl⟩
      obtain ⟨Y, hY⟩ : ∃ Y, Mn j = Y := ⟨_, rfl⟩
      obtain ⟨V, hV⟩ : ∃ V, Wn (j + 1) = V := ⟨_, rfl⟩
      rw [hX, hY] at cmj
      rw [hY, hV] at caj
      rw [hX] at gv
      replace gv := Lib.hid gv
      replace hV := Lib.hid hV
      clear hX hY
      obtain ⟨Xn, Xh, Xl⟩ := X
      obtain ⟨Yn, Yh, Yl⟩ := Y
      obtain ⟨Vn, Vh, Vl⟩ := V
      unfold wv at cmj caj
      dsimp only at cmj caj
      go_wp2_with fail
      refine (cs.on _).mono ?_
      rintro e w21 ⟨rfl, hb21⟩
      replace gd := Lib.hid (isN_of hb21 gd.out)
      replace gv := Lib.hid (isN_of hb21 gv.out)
      replace hb := Lib.hid (hb.out.trans (hb21.mono hs))
      clear hs hb21
      have hs := hb.out.size
      go_upto_region 8 with fail
      go_cut [] (fun wx => IsN wx (w4.heap.size) ⟨false, 0, 1⟩ ∧ IsN wx (w5.heap.size) ⟨Yn, Yh, Yl⟩ ∧ Below w.heap.size w wx)
      case first =>
        obtain ⟨x0, x1, x2⟩ := gv.out.drew.all
        dsimp only at x0 x1 x2
        replace gd := Lib.hid gd.out.drew
        replace gv := Lib.hid gv.out.drew
        replace hb := Lib.hid (below_drewed hb.out)
        clear hs
        have hs := hb.out.size
        refine wp_region_held_at (S := fun _ => True) 7 rfl (by kernel_rfl) trivial (fun _ => ?_)
        refine wpAnyH_ready (rs := [0, 1]) (by decide +kernel) (by simp) ?_
        refine AllReadyH.cons rfl (fun K hK => ?_) ?_
        · (try simp only [List.getElem_toArray, List.getElem_cons_zero])
          go_simp
          refine hK.out _ _ trivial (fun _ => ?_)
          clear hK K
          try simp only [List.getElem_toArray, List.getElem_cons_zero, List.getElem_cons_succ, Act.put, List.setIfInBounds_toArray, List.set_cons_zero, List.set_cons_succ]
          refine wpAnyH_ready (rs := [1]) (by decide +kernel) (by simp) ?_
          refine AllReadyH.cons rfl (fun K hK => ?_) ?_
          · (try simp only [List.getElem_toArray, List.getElem_cons_zero, List.getElem_cons_succ])
            go_simp
            refine (c256.on _).mono ?_
            rintro e wq ⟨rfl, hbq⟩
            have gd9 := Lib.hid (isN_of hbq gd.out)
            have gv9 := Lib.hid (isN_of hbq gv.out)
            have hb9 := Lib.hid (hb.out.trans (hbq.mono hs))
            clear gd gv hb hs x0 x1 x2
            have gd := gd9
            have gv := gv9
            have hb := hb9
            clear hb9 hbq gd9 gv9
            have hs := hb.out.size
            obtain ⟨x0, x1, x2⟩ := gv.out.all
            dsimp only at x0 x1 x2
            go_simp
            refine hK.out _ _ trivial (fun _ => ?_)
            clear hK K
            try simp only [List.getElem_toArray, List.getElem_cons_zero, List.getElem_cons_succ, Act.put, List.setIfInBounds_toArray, List.set_cons_zero, List.set_cons_succ]
            refine wpAnyH_ready (rs := [2]) (by decide +kernel) (by simp) ?_
            refine AllReadyH.cons rfl (fun K hK => ?_) ?_
            · (try simp only [List.getElem_toArray, List.getElem_cons_zero, List.getElem_cons_succ])
              go_simp
              refine (cmj.on _).mono ?_
              rintro e wq ⟨rfl, hbq⟩
              have gd9 := Lib.hid (isN_of hbq gd.out)
              have gv9 := Lib.hid (isN_of hbq gv.out)
              have hb9 := Lib.hid (hb.out.trans (hbq.mono hs))
              clear gd gv hb hs x0 x1 x2
              have gd := gd9
              have gv := gv9
              have hb := hb9
              clear hb9 hbq gd9 gv9
              have hs := hb.out.size
              obtain ⟨x0, x1, x2⟩ := gv.out.all
              dsimp only at x0 x1 x2
              have xf := gv.out.f
              have gv8 := Lib.hid (gv.out.set Yn Yh Yl)
              have gd8 := Lib.hid (gd.out.set3_other (c := w5.heap.size) (v0 := .bool Yn) (v1 := .int .u64 Yh) (v2 := .int .u64 Yl) (by omega))
              have hb8 := Lib.hid (below_set3 hb.out (b := w5.heap.size) (by omega) (.bool Yn) (.int .u64 Yh) (.int .u64 Yl))
              clear gd gv hb hs
              go_simp
              refine hK.out _ _ trivial (fun _ => ?_)
              clear hK K
              try simp only [List.getElem_toArray, List.getElem_cons_zero, List.getElem_cons_succ, Act.put, List.setIfInBounds_toArray, List.set_cons_zero, List.set_cons_succ]
              refine wpAnyH_take (i := 3) (v := ?_) rfl (by decide +kernel) (by decide +kernel) (by decide +kernel) (fun _ _ _ h => h) (Or.inl ⟨by rfl, ?_⟩) trivial ?_
              rotate_left
              · intro w _; (try simp only [List.getElem_toArray, List.getElem_cons_zero, List.getElem_cons_succ]); go_simp; try with_reducible rfl
              try simp only [List.getElem_toArray, List.getElem_cons_zero, List.getElem_cons_succ, Act.put, List.setIfInBounds_toArray, List.set_cons_zero, List.set_cons_succ]
              refine wpAnyH_take (i := 4) (v := ?_) rfl (by decide +kernel) (by decide +kernel) (by decide +kernel) (fun _ _ _ h => h) (Or.inl ⟨by rfl, ?_⟩) trivial ?_
              rotate_left
              · intro w _; (try simp only [List.getElem_toArray, List.getElem_cons_zero, List.getElem_cons_succ]); go_simp; try with_reducible rfl
              try simp only [List.getElem_toArray, List.getElem_cons_zero, List.getElem_cons_succ, Act.put, List.setIfInBounds_toArray, List.set_cons_zero, List.set_cons_succ]
              refine wpAnyH_take (i := 5) (v := ?_) rfl (by decide +kernel) (by decide +kernel) (by decide +kernel) (fun _ _ _ h => h) (Or.inl ⟨by rfl, ?_⟩) trivial ?_
              rotate_left
              · intro w _; (try simp only [List.getElem_toArray, List.getElem_cons_zero, List.getElem_cons_succ]); go_simp; try with_reducible rfl
              try simp only [List.getElem_toArray, List.getElem_cons_zero, List.getElem_cons_succ, Act.put, List.setIfInBounds_toArray, List.set_cons_zero, List.set_cons_succ]
              refine wpAnyH_ready (rs := [6]) (by decide +kernel) (by simp) ?_
              refine AllReadyH.cons rfl (fun K hK => ?_) ?_
              · (try simp only [List.getElem_toArray, List.getElem_cons_zero, List.getElem_cons_succ])
                go_simp
                refine hK.out _ _ trivial (fun _ => ?_)
                clear hK K
                try simp only [List.getElem_toArray, List.getElem_cons_zero, List.getElem_cons_succ, Act.put, List.setIfInBounds_toArray, List.set_cons_zero, List.set_cons_succ]
                refine wpAnyH_done (by decide +kernel) ?_ _
                go_wp2_with fail
                go_meet
                exact ⟨gd8.out, gv8.out, hb8.out⟩
              exact AllReadyH.nil
            exact AllReadyH.nil
          exact AllReadyH.nil
        refine AllReadyH.cons rfl (fun K hK => ?_) ?_
        · (try simp only [List.getElem_toArray, List.getElem_cons_zero, List.getElem_cons_succ])
          go_simp
          refine (c256.on _).mono ?_
          rintro e wq ⟨rfl, hbq⟩
          have gd9 := Lib.hid (isN_of hbq gd.out)
          have gv9 := Lib.hid (isN_of hbq gv.out)
          have hb9 := Lib.hid (hb.out.trans (hbq.mono hs))
          clear gd gv hb hs x0 x1 x2
          have gd := gd9
          have gv := gv9
          have hb := hb9
          clear hb9 hbq gd9 gv9
          have hs := hb.out.size
          obtain ⟨x0, x1, x2⟩ := gv.out.all
          dsimp only at x0 x1 x2
          go_simp
          refine hK.out _ _ trivial (fun _ => ?_)
          clear hK K
          try simp only [List.getElem_toArray, List.getElem_cons_zero, List.getElem_cons_succ, Act.put, List.setIfInBounds_toArray, List.set_cons_zero, List.set_cons_succ]
          refine wpAnyH_ready (rs := [0]) (by decide +kernel) (by simp) ?_
          refine AllReadyH.cons rfl (fun K hK => ?_) ?_
          · (try simp only [List.getElem_toArray, List.getElem_cons_zero])
            go_simp
            refine hK.out _ _ trivial (fun _ => ?_)
            clear hK K
            try simp only [List.getElem_toArray, List.getElem_cons_zero, List.getElem_cons_succ, Act.put, List.setIfInBounds_toArray, List.set_cons_zero, List.set_cons_succ]
            refine wpAnyH_ready (rs := [2]) (by decide +kernel) (by simp) ?_
            refine AllReadyH.cons rfl (fun K hK => ?_) ?_
            · (try simp only [List.getElem_toArray, List.getElem_cons_zero, List.getElem_cons_succ])
              go_simp
              refine (cmj.on _).mono ?_
              rintro e wq ⟨rfl, hbq⟩
              have gd9 := Lib.hid (isN_of hbq gd.out)
              have gv9 := Lib.hid (isN_of hbq gv.out)
              have hb9 := Lib.hid (hb.out.trans (hbq.mono hs))
              clear gd gv hb hs x0 x1 x2
              have gd := gd9
              have gv := gv9
              have hb := hb9
              clear hb9 hbq gd9 gv9
              have hs := hb.out.size
              obtain ⟨x0, x1, x2⟩ := gv.out.all
              dsimp only at x0 x1 x2
              have xf := gv.out.f
              have gv8 := Lib.hid (gv.out.set Yn Yh Yl)
              have gd8 := Lib.hid (gd.out.set3_other (c := w5.heap.size) (v0 := .bool Yn) (v1 := .int .u64 Yh) (v2 := .int .u64 Yl) (by omega))
              have hb8 := Lib.hid (below_set3 hb.out (b := w5.heap.size) (by omega) (.bool Yn) (.int .u64 Yh) (.int .u64 Yl))
              clear gd gv hb hs
              go_simp
              refine hK.out _ _ trivial (fun _ => ?_)
              clear hK K
              try simp only [List.getElem_toArray, List.getElem_cons_zero, List.getElem_cons_succ, Act.put, List.setIfInBounds_toArray, List.set_cons_zero, List.set_cons_succ]
              refine wpAnyH_take (i := 3) (v := ?_) rfl (by decide +kernel) (by decide +kernel) (by decide +kernel) (fun _ _ _ h => h) (Or.inl ⟨by rfl, ?_⟩) trivial ?_
              rotate_left
              · intro w _; (try simp only [List.getElem_toArray, List.getElem_cons_zero, List.getElem_cons_succ]); go_simp; try with_reducible rfl
              try simp only [List.getElem_toArray, List.getElem_cons_zero, List.getElem_cons_succ, Act.put, List.setIfInBounds_toArray, List.set_cons_zero, List.set_cons_succ]
              refine wpAnyH_take (i := 4) (v := ?_) rfl (by decide +kernel) (by decide +kernel) (by decide +kernel) (fun _ _ _ h => h) (Or.inl ⟨by rfl, ?_⟩) trivial ?_
              rotate_left
              · intro w _; (try simp only [List.getElem_toArray, List.getElem_cons_zero, List.getElem_cons_succ]); go_simp; try with_reducible rfl
              try simp only [List.getElem_toArray, List.getElem_cons_zero, List.getElem_cons_succ, Act.put, List.setIfInBounds_toArray, List.set_cons_zero, List.set_cons_succ]
              refine wpAnyH_take (i := 5) (v := ?_) rfl (by decide +kernel) (by decide +kernel) (by decide +kernel) (fun _ _ _ h => h) (Or.inl ⟨by rfl, ?_⟩) trivial ?_
              rotate_left
              · intro w _; (try simp only [List.getElem_toArray, List.getElem_cons_zero, List.getElem_cons_succ]); go_simp; try with_reducible rfl
              try simp only [List.getElem_toArray, List.getElem_cons_zero, List.getElem_cons_succ, Act.put, List.setIfInBounds_toArray, List.set_cons_zero, List.set_cons_succ]
              refine wpAnyH_ready (rs := [6]) (by decide +kernel) (by simp) ?_
              refine AllReadyH.cons rfl (fun K hK => ?_) ?_
              · (try simp only [List.getElem_toArray, List.getElem_cons_zero, List.getElem_cons_succ])
                go_simp
                refine hK.out _ _ trivial (fun _ => ?_)
                clear hK K
                try simp only [List.getElem_toArray, List.getElem_cons_zero, List.getElem_cons_succ, Act.put, List.setIfInBounds_toArray, List.set_cons_zero, List.set_cons_succ]
                refine wpAnyH_done (by decide +kernel) ?_ _
                go_wp2_with fail
                go_meet
                exact ⟨gd8.out, gv8.out, hb8.out⟩
              exact AllReadyH.nil
            exact AllReadyH.nil
          exact AllReadyH.nil
        exact AllReadyH.nil
      obtain ⟨gd0, gv0, hb0⟩ := hcut
      clear hs hb gd gv
      have gd := Lib.hid gd0
      have gv := Lib.hid gv0
      have hb := Lib.hid hb0
      clear hb0 gd0 gv0
      have hs := hb.out.size
      go_upto_region 9 with fail
      obtain ⟨x0, x1, x2⟩ := gv.out.drew.all
      dsimp only at x0 x1 x2
      replace gd := Lib.hid gd.out.drew
      replace gv := Lib.hid gv.out.drew
      replace hb := Lib.hid (below_drewed hb.out)
      clear hs
      have hs := hb.out.size
      refine wp_region_held_at (S := fun _ => True) 7 rfl (by kernel_rfl) trivial (fun _ => ?_)
      refine wpAnyH_ready (rs := [0, 1]) (by decide +kernel) (by simp) ?_
      refine AllReadyH.cons rfl (fun K hK => ?_) ?_
      · (try simp only [List.getElem_toArray, List.getElem_cons_zero])
        go_simp
        refine hK.out _ _ trivial (fun _ => ?_)
        clear hK K
        try simp only [List.getElem_toArray, List.getElem_cons_zero, List.getElem_cons_succ, Act.put, List.setIfInBounds_toArray, List.set_cons_zero, List.set_cons_succ]
        refine wpAnyH_ready (rs := [1]) (by decide +kernel) (by simp) ?_
        refine AllReadyH.cons rfl (fun K hK => ?_) ?_
        · (try simp only [List.getElem_toArray, List.getElem_cons_zero, List.getElem_cons_succ])
          go_simp
          refine (c255.on _).mono ?_
          rintro e wq ⟨rfl, hbq⟩
          have gd9 := Lib.hid (isN_of hbq gd.out)
          have gv9 := Lib.hid (isN_of hbq gv.out)
          have hb9 := Lib.hid (hb.out.trans (hbq.mono hs))
          clear gd gv hb hs x0 x1 x2
          have gd := gd9
          have gv := gv9
          have hb := hb9
          clear hb9 hbq gd9 gv9
          have hs := hb.out.size
          obtain ⟨x0, x1, x2⟩ := gv.out.all
          dsimp only at x0 x1 x2
          go_simp
          refine hK.out _ _ trivial (fun _ => ?_)
          clear hK K
          try simp only [List.getElem_toArray, List.getElem_cons_zero, List.getElem_cons_succ, Act.put, List.setIfInBounds_toArray, List.set_cons_zero, List.set_cons_succ]
          refine wpAnyH_ready (rs := [2]) (by decide +kernel) (by simp) ?_
          refine AllReadyH.cons rfl (fun K hK => ?_) ?_
          · (try simp only [List.getElem_toArray, List.getElem_cons_zero, List.getElem_cons_succ])
            go_simp
            refine (caj.on _).mono ?_
            rintro e wq ⟨rfl, hbq⟩
            have gd9 := Lib.hid (isN_of hbq gd.out)
            have gv9 := Lib.hid (isN_of hbq gv.out)
            have hb9 := Lib.hid (hb.out.trans (hbq.mono hs))
            clear gd gv hb hs x0 x1 x2
            have gd := gd9
            have gv := gv9
            have hb := hb9
            clear hb9 hbq gd9 gv9
            have hs := hb.out.size
            obtain ⟨x0, x1, x2⟩ := gv.out.all
            dsimp only at x0 x1 x2
            have xf := gv.out.f
            have gv8 := Lib.hid (gv.out.set Vn Vh Vl)
            have gd8 := Lib.hid (gd.out.set3_other (c := w5.heap.size) (v0 := .bool Vn) (v1 := .int .u64 Vh) (v2 := .int .u64 Vl) (by omega))
            have hb8 := Lib.hid (below_set3 hb.out (b := w5.heap.size) (by omega) (.bool Vn) (.int .u64 Vh) (.int .u64 Vl))
            clear gd gv hb hs
            go_simp
            refine hK.out _ _ trivial (fun _ => ?_)
            clear hK K
            try simp only [List.getElem_toArray, List.getElem_cons_zero, List.getElem_cons_succ, Act.put, List.setIfInBounds_toArray, List.set_cons_zero, List.set_cons_succ]
            refine wpAnyH_take (i := 3) (v := ?_) rfl (by decide +kernel) (by decide +kernel) (by decide +kernel) (fun _ _ _ h => h) (Or.inl ⟨by rfl, ?_⟩) trivial ?_
            rotate_left
            · intro w _; (try simp only [List.getElem_toArray, List.getElem_cons_zero, List.getElem_cons_succ]); go_simp; try with_reducible rfl
            try simp only [List.getElem_toArray, List.getElem_cons_zero, List.getElem_cons_succ, Act.put, List.setIfInBounds_toArray, List.set_cons_zero, List.set_cons_succ]
            refine wpAnyH_take (i := 4) (v := ?_) rfl (by decide +kernel) (by decide +kernel) (by decide +kernel) (fun _ _ _ h => h) (Or.inl ⟨by rfl, ?_⟩) trivial ?_
            rotate_left
            · intro w _; (try simp only [List.getElem_toArray, List.getElem_cons_zero, List.getElem_cons_succ]); go_simp; try with_reducible rfl
            try simp only [List.getElem_toArray, List.getElem_cons_zero, List.getElem_cons_succ, Act.put, List.setIfInBounds_toArray, List.set_cons_zero, List.set_cons_succ]
            refine wpAnyH_take (i := 5) (v := ?_) rfl (by decide +kernel) (by decide +kernel) (by decide +kernel) (fun _ _ _ h => h) (Or.inl ⟨by rfl, ?_⟩) trivial ?_
            rotate_left
            · intro w _; (try simp only [List.getElem_toArray, List.getElem_cons_zero, List.getElem_cons_succ]); go_simp; try with_reducible rfl
            try simp only [List.getElem_toArray, List.getElem_cons_zero, List.getElem_cons_succ, Act.put, List.setIfInBounds_toArray, List.set_cons_zero, List.set_cons_succ]
            refine wpAnyH_ready (rs := [6]) (by decide +kernel) (by simp) ?_
            refine AllReadyH.cons rfl (fun K hK => ?_) ?_
            · (try simp only [List.getElem_toArray, List.getElem_cons_zero, List.getElem_cons_succ])
              go_simp
              refine hK.out _ _ trivial (fun _ => ?_)
              clear hK K
              try simp only [List.getElem_toArray, List.getElem_cons_zero, List.getElem_cons_succ, Act.put, List.setIfInBounds_toArray, List.set_cons_zero, List.set_cons_succ]
              refine wpAnyH_done (by decide +kernel) ?_ _
              have gd := gd8
              have gv := gv8
              have hb := hb8
              have hs := hb.out.size
              clear hb8 gd8 gv8 xf x0 x1 x2
              go_wp2_with fail
              go_roundw
              case rel => exact ⟨j + 1, by omega, by go_num, gd.out, by rw [hV.out]; exact gv.out, hb.out⟩
              case measure => simp [intOf]; omega
            exact AllReadyH.nil
          exact AllReadyH.nil
        exact AllReadyH.nil
      refine AllReadyH.cons rfl (fun K hK => ?_) ?_
      · (try simp only [List.getElem_toArray, List.getElem_cons_zero, List.getElem_cons_succ])
        go_simp
        refine (c255.on _).mono ?_
        rintro e wq ⟨rfl, hbq⟩
        have gd9 := Lib.hid (isN_of hbq gd.out)
        have gv9 := Lib.hid (isN_of hbq gv.out)
        have hb9 := Lib.hid (hb.out.trans (hbq.mono hs))
        clear gd gv hb hs x0 x1 x2
        have gd := gd9
        have gv := gv9
        have hb := hb9
        clear hb9 hbq gd9 gv9
        have hs := hb.out.size
        obtain ⟨x0, x1, x2⟩ := gv.out.all
        dsimp only at x0 x1 x2
        go_simp
        refine hK.out _ _ trivial (fun _ => ?_)
        clear hK K
        try simp only [List.getElem_toArray, List.getElem_cons_zero, List.getElem_cons_succ, Act.put, List.setIfInBounds_toArray, List.set_cons_zero, List.set_cons_succ]
        refine wpAnyH_ready (rs := [0]) (by decide +kernel) (by simp) ?_
        refine AllReadyH.cons rfl (fun K hK => ?_) ?_
        · (try simp only [List.getElem_toArray, List.getElem_cons_zero])
          go_simp
          refine hK.out _ _ trivial (fun _ => ?_)
          clear hK K
          try simp only [List.getElem_toArray, List.getElem_cons_zero, List.getElem_cons_succ, Act.put, List.setIfInBounds_toArray, List.set_cons_zero, List.set_cons_succ]
          refine wpAnyH_ready (rs := [2]) (by decide +kernel) (by simp) ?_
          refine AllReadyH.cons rfl (fun K hK => ?_) ?_
          · (try simp only [List.getElem_toArray, List.getElem_cons_zero, List.getElem_cons_succ])
            go_simp
            refine (caj.on _).mono ?_
            rintro e wq ⟨rfl, hbq⟩
            have gd9 := Lib.hid (isN_of hbq gd.out)
            have gv9 := Lib.hid (isN_of hbq gv.out)
            have hb9 := Lib.hid (hb.out.trans (hbq.mono hs))
            clear gd gv hb hs x0 x1 x2
            have gd := gd9
            have gv := gv9
            have hb := hb9
            clear hb9 hbq gd9 gv9
            have hs := hb.out.size
            obtain ⟨x0, x1, x2⟩ := gv.out.all
            dsimp only at x0 x1 x2
            have xf := gv.out.f
            have gv8 := Lib.hid (gv.out.set Vn Vh Vl)
            have gd8 := Lib.hid (gd.out.set3_other (c := w5.heap.size) (v0 := .bool Vn) (v1 := .int .u64 Vh) (v2 := .int .u64 Vl) (by omega))
            have hb8 := Lib.hid (below_set3 hb.out (b := w5.heap.size) (by omega) (.bool Vn) (.int .u64 Vh) (.int .u64 Vl))
            clear gd gv hb hs
            go_simp
            refine hK.out _ _ trivial (fun _ => ?_)
            clear hK K
            try simp only [List.getElem_toArray, List.getElem_cons_zero, List.getElem_cons_succ, Act.put, List.setIfInBounds_toArray, List.set_cons_zero, List.set_cons_succ]
            refine wpAnyH_take (i := 3) (v := ?_) rfl (by decide +kernel) (by decide +kernel) (by decide +kernel) (fun _ _ _ h => h) (Or.inl ⟨by rfl, ?_⟩) trivial ?_
            rotate_left
            · intro w _; (try simp only [List.getElem_toArray, List.getElem_cons_zero, List.getElem_cons_succ]); go_simp; try with_reducible rfl
            try simp only [List.getElem_toArray, List.getElem_cons_zero, List.getElem_cons_succ, Act.put, List.setIfInBounds_toArray, List.set_cons_zero, List.set_cons_succ]
            refine wpAnyH_take (i := 4) (v := ?_) rfl (by decide +kernel) (by decide +kernel) (by decide +kernel) (fun _ _ _ h => h) (Or.inl ⟨by rfl, ?_⟩) trivial ?_
            rotate_left
            · intro w _; (try simp only [List.getElem_toArray, List.getElem_cons_zero, List.getElem_cons_succ]); go_simp; try with_reducible rfl
            try simp only [List.getElem_toArray, List.getElem_cons_zero, List.getElem_cons_succ, Act.put, List.setIfInBounds_toArray, List.set_cons_zero, List.set_cons_succ]
            refine wpAnyH_take (i := 5) (v := ?_) rfl (by decide +kernel) (by decide +kernel) (by decide +kernel) (fun _ _ _ h => h) (Or.inl ⟨by rfl, ?_⟩) trivial ?_
            rotate_left
            · intro w _; (try simp only [List.getElem_toArray, List.getElem_cons_zero, List.getElem_cons_succ]); go_simp; try with_reducible rfl
            try simp only [List.getElem_toArray, List.getElem_cons_zero, List.getElem_cons_succ, Act.put, List.setIfInBounds_toArray, List.set_cons_zero, List.set_cons_succ]
            refine wpAnyH_ready (rs := [6]) (by decide +kernel) (by simp) ?_
            refine AllReadyH.cons rfl (fun K hK => ?_) ?_
            · (try simp only [List.getElem_toArray, List.getElem_cons_zero, List.getElem_cons_succ])
              go_simp
              refine hK.out _ _ trivial (fun _ => ?_)
              clear hK K
              try simp only [List.getElem_toArray, List.getElem_cons_zero, List.getElem_cons_succ, Act.put, List.setIfInBounds_toArray, List.set_cons_zero, List.set_cons_succ]
              refine wpAnyH_done (by decide +kernel) ?_ _
              have gd := gd8
              have gv := gv8
              have hb := hb8
              have hs := hb.out.size
              clear hb8 gd8 gv8 xf x0 x1 x2
              go_wp2_with fail
              go_roundw
              case rel => exact ⟨j + 1, by omega, by go_num, gd.out, by rw [hV.out]; exact gv.out, hb.out⟩
              case measure => simp [intOf]; omega
            exact AllReadyH.nil
          exact AllReadyH.nil
        exact AllReadyH.nil
      exact AllReadyH.nil
    · obtain rfl : j = sz := by omega
      obtain ⟨X, hX⟩ : ∃ X, Wn j = X := ⟨_, rfl⟩
      rw [hX] at gv
      clear hX
      obtain ⟨Xn, Xh, Xl⟩ := X
      replace gv := Lib.hid gv
      go_wp2_with fail
      refine (cs.on _).mono ?_
      rintro e w31 ⟨rfl, hb31⟩
      replace gd := Lib.hid (isN_of hb31 gd.out)
      replace gv := Lib.hid (isN_of hb31 gv.out)
      replace hb := Lib.hid (hb.out.trans (hb31.mono hs))
      clear hs hb31
      have hs := hb.out.size
      obtain rfl := hk.out
      go_wp2_with fail
      refine (c1.on _).mono ?_
      rintro e w32 ⟨rfl, hb32⟩
      replace gd := Lib.hid (isN_of hb32 gd.out)
      replace gv := Lib.hid (isN_of hb32 gv.out)
      replace hb := Lib.hid (hb.out.trans (hb32.mono hs))
      clear hs hb32
      have hs := hb.out.size
      obtain ⟨cd0, cd1, cd2⟩ := gd.out.all
      obtain ⟨cv0, cv1, cv2⟩ := gv.out.all
      dsimp only at cd0 cd1 cd2 cv0 cv1 cv2
      have xf := gv.out.f
      obtain ⟨p0, p1, p2⟩ := (gv.out.set false 0 1).all
      obtain ⟨q0, q1, q2⟩ := (gd.out.set3_other (c := w5.heap.size) (v0 := .bool false) (v1 := .int .u64 0) (v2 := .int .u64 1) (by omega)).all
      have hfin := Lib.hid (below_set3 hb.out (b := w5.heap.size) (by omega) (.bool false) (.int .u64 0) (.int .u64 1))
      dsimp only at p0 p1 p2 q0 q1 q2
      clear gd gv hb hs
      go_wp2_with fail
      go_ret
      exact ⟨rfl, hfin.out⟩

set_option maxRecDepth 100000 in
set_option maxHeartbeats 8000000 in
theorem fieldSpan_n (k : Int) (G L D : WI) (sz : Nat) (Wn Mn : Nat → WI)
    (cg : Ret 18 #[.int .i64 k] (wv G)) (cl : Ret 17 #[.int .i64 k] (wv L)) (cd : Ret 28 #[wv G, wv L] (.tuple #[wv D, .int .i64 0]))
    (c0 : Ret 27 #[.int .i64 0] (wv (Wn 0))) (c256 : Ret 27 #[.int .i64 256] (wv ⟨false, 0, 256⟩)) (c255 : Ret 27 #[.int .i64 255] (wv ⟨false, 0, 255⟩)) 
    (cs : Ret 15 #[.int .i64 k] (.int .i64 (sz : Int))) (hsz : sz ≤ 8) (cm : ∀ j, j < sz → Ret 31 #[wv (Wn j), wv ⟨false, 0, 256⟩] (.tuple #[wv (Mn j), .int .i64 0]))
    (ca : ∀ j, j < sz → Ret 26 #[wv (Mn j), wv ⟨false, 0, 255⟩] (.tuple #[wv (Wn (j + 1)), .int .i64 0])) (hk : (k == 1) = false) (hD : D = Wn sz) (w : World) :
    Calls Try.prog 7 #[.int .i64 k] w fun e w' => e = .returned (.bool true) ∧ Below w.heap.size w w' := by
  replace hD := Lib.hid hD
  obtain ⟨Dn, Dh, Dl⟩ := D
  obtain ⟨Gn, Gh, Gl⟩ := G
  obtain ⟨Ln, Lh, Ll⟩ := L
  replace hk := Lib.hid hk
  replace cm := Lib.hid cm
  replace ca := Lib.hid ca
  obtain ⟨Z, hZ⟩ : ∃ Z, Wn 0 = Z := ⟨_, rfl⟩
  rw [hZ] at c0
  replace hZ := Lib.hid hZ
  obtain ⟨Zn, Zh, Zl⟩ := Z
  unfold wv at cg cl cd c0 c256 c255
  dsimp only at cg cl cd c0 c256 c255
  go_enter Try.func7, Try.ntmps7
  have hb := Lib.hid (Below.refl w.heap.size w)
  have hs := hb.out.size
  go_wp2_with fail
  refine (awake_c.on _).mono ?_
  rintro e w1 ⟨rfl, hb1⟩
  replace hb := Lib.hid (hb.out.trans (hb1.mono hs))
  clear hs hb1
  have hs := hb.out.size
  go_wp2_with fail
  refine (cg.on _).mono ?_
  rintro e w2 ⟨rfl, hb2⟩
  replace hb := Lib.hid (hb.out.trans (hb2.mono hs))
  clear hs hb2
  have hs := hb.out.size
  go_wp2_with fail
  refine (cl.on _).mono ?_
  rintro e w3 ⟨rfl, hb3⟩
  replace hb := Lib.hid (hb.out.trans (hb3.mono hs))
  clear hs hb3
  have hs := hb.out.size
  go_wp2_with fail
  refine (cd.on _).mono ?_
  rintro e w4 ⟨rfl, hb4⟩
  replace hb := Lib.hid (hb.out.trans (hb4.mono hs))
  clear hs hb4
  have hs := hb.out.size
  have gd := Lib.hid (IsN.new w4 ⟨Dn, Dh, Dl⟩)
  replace hb := Lib.hid (hb.out.alloc hs (oN ⟨Dn, Dh, Dl⟩))
  clear hs
  have hs := hb.out.size
  go_wp2_with fail
  refine (c0.on _).mono ?_
  rintro e w5 ⟨rfl, hb5⟩
  replace gd := Lib.hid (isN_of hb5 gd.out)
  replace hb := Lib.hid (hb.out.trans (hb5.mono hs))
  clear hs hb5
  have hs := hb.out.size
  have hne := gd.out.lt
  have hle := hs
  replace gd := Lib.hid (gd.out.alloc (oN ⟨Zn, Zh, Zl⟩))
  have gv := Lib.hid (IsN.new w5 ⟨Zn, Zh, Zl⟩)
  replace hb := Lib.hid (hb.out.alloc hs (oN ⟨Zn, Zh, Zl⟩))
  clear hs
  have hs := hb.out.size
  go_wp2_with fail
  go_loopw [6] (fun i wr => ∃ j : Nat, j ≤ sz ∧ i = .int .i64 j ∧ IsN wr w4.heap.size ⟨Dn, Dh, Dl⟩ ∧ IsN wr w5.heap.size (Wn j) ∧ Below w.heap.size w wr) (fun i _ => sz - (intOf i).toNat)
  case atStart => exact ⟨0, Nat.zero_le _, rfl, gd.out, by rw [hZ.out]; exact gv.out, hb.out⟩
  case round =>
    clear gd gv hb hs
    obtain ⟨j, hj, rfl, gd, gv, hb⟩ := hrel
    replace gd := Lib.hid gd
    replace hb := Lib.hid hb
    have hs := hb.out.size
    by_cases hlt : j < sz
    · have cmj := cm.out j hlt
      have caj := ca.out j hlt
      obtain ⟨X, hX⟩ : ∃ X, Wn j = X := ⟨_, rfl⟩
      obtain ⟨Y, hY⟩ : ∃ Y, Mn j = Y := ⟨_, rfl⟩
      obtain ⟨V, hV⟩ : ∃ V, Wn (j + 1) = V := ⟨_, rfl⟩
      rw [hX, hY] at cmj
      rw [hY, hV] at caj
      rw [hX] at gv
      replace gv := Lib.hid gv
      replace hV := Lib.hid hV
      clear hX hY
      obtain ⟨Xn, Xh, Xl⟩ := X
      obtain ⟨Yn, Yh, Yl⟩ := Y
      obtain ⟨Vn, Vh, Vl⟩ := V
      unfold wv at cmj caj
      dsimp only at cmj caj
      go_wp2_with fail
      refine (cs.on _).mono ?_
      rintro e w21 ⟨rfl, hb21⟩
      replace gd := Lib.hid (isN_of hb21 gd.out)
      replace gv := Lib.hid (isN_of hb21 gv.out)
      replace hb := Lib.hid (hb.out.trans (hb21.mono hs))
      clear hs hb21
      have hs := hb.out.size
      go_upto_region 8 with fail
      go_cut [] (fun wx => IsN wx (w4.heap.size) ⟨Dn, Dh, Dl⟩ ∧ IsN wx (w5.heap.size) ⟨Yn, Yh, Yl⟩ ∧ Below w.heap.size w wx)
      case first =>
        obtain ⟨x0, x1, x2⟩ := gv.out.drew.all
        dsimp only at x0 x1 x2
        replace gd := Lib.hid gd.out.drew
        replace gv := Lib.hid gv.out.drew
        replace hb := Lib.hid (below_drewed hb.out)
        clear hs
        have hs := hb.out.size
        refine wp_region_held_at (S := fun _ => True) 7 rfl (by kernel_rfl) trivial (fun _ => ?_)
        refine wpAnyH_ready (rs := [0, 1]) (by decide +kernel) (by simp) ?_
        refine AllReadyH.cons rfl (fun K hK => ?_) ?_
        · (try simp only [List.getElem_toArray, List.getElem_cons_zero])
          go_simp
          refine hK.out _ _ trivial (fun _ => ?_)
          clear hK K
          try simp only [List.getElem_toArray, List.getElem_cons_zero, List.getElem_cons_succ, Act.put, List.setIfInBounds_toArray, List.set_cons_zero, List.set_cons_succ]
          refine wpAnyH_ready (rs := [1]) (by decide +kernel) (by simp) ?_
          refine AllReadyH.cons rfl (fun K hK => ?_) ?_
          · (try simp only [List.getElem_toArray, List.getElem_cons_zero, List.getElem_cons_succ])
            go_simp
            refine (c256.on _).mono ?_
            rintro e wq ⟨rfl, hbq⟩
            have gd9 := Lib.hid (isN_of hbq gd.out)
            have gv9 := Lib.hid (isN_of hbq gv.out)
            have hb9 := Lib.hid (hb.out.trans (hbq.mono hs))
            clear gd gv hb hs x0 x1 x2
            have gd := gd9
            have gv := gv9
            have hb := hb9
            clear hb9 hbq gd9 gv9
            have hs := hb.out.size
            obtain ⟨x0, x1, x2⟩ := gv.out.all
            dsimp only at x0 x1 x2
            go_simp
            refine hK.out _ _ trivial (fun _ => ?_)
            clear hK K
            try simp only [List.getElem_toArray, List.getElem_cons_zero, List.getElem_cons_succ, Act.put, List.setIfInBounds_toArray, List.set_cons_zero, List.set_cons_succ]
            refine wpAnyH_ready (rs := [2]) (by decide +kernel) (by simp) ?_
            refine AllReadyH.cons rfl (fun K hK => ?_) ?_
            · (try simp only [List.getElem_toArray, List.getElem_cons_zero, List.getElem_cons_succ])
              go_simp
              refine (cmj.on _).mono ?_
              rintro e wq ⟨rfl, hbq⟩
              have gd9 := Lib.hid (isN_of hbq gd.out)
              have gv9 := Lib.hid (isN_of hbq gv.out)
              have hb9 := Lib.hid (hb.out.trans (hbq.mono hs))
              clear gd gv hb hs x0 x1 x2
              have gd := gd9
              have gv := gv9
              have hb := hb9
              clear hb9 hbq gd9 gv9
              have hs := hb.out.size
              obtain ⟨x0, x1, x2⟩ := gv.out.all
              dsimp only at x0 x1 x2
              have xf := gv.out.f
              have gv8 := Lib.hid (gv.out.set Yn Yh Yl)
              have gd8 := Lib.hid (gd.out.set3_other (c := w5.heap.size) (v0 := .bool Yn) (v1 := .int .u64 Yh) (v2 := .int .u64 Yl) (by omega))
              have hb8 := Lib.hid (below_set3 hb.out (b := w5.heap.size) (by omega) (.bool Yn) (.int .u64 Yh) (.int .u64 Yl))
              clear gd gv hb hs
              go_simp
              refine hK.out _ _ trivial (fun _ => ?_)
              clear hK K
              try simp only [List.getElem_toArray, List.getElem_cons_zero, List.getElem_cons_succ, Act.put, List.setIfInBounds_toArray, List.set_cons_zero, List.set_cons_succ]
              refine wpAnyH_take (i := 3) (v := ?_) rfl (by decide +kernel) (by decide +kernel) (by decide +kernel) (fun _ _ _ h => h) (Or.inl ⟨by rfl, ?_⟩) trivial ?_
              rotate_left
              · intro w _; (try simp only [List.getElem_toArray, List.getElem_cons_zero, List.getElem_cons_succ]); go_simp; try with_reducible rfl
              try simp only [List.getElem_toArray, List.getElem_cons_zero, List.getElem_cons_succ, Act.put, List.setIfInBounds_toArray, List.set_cons_zero, List.set_cons_succ]
              refine wpAnyH_take (i := 4) (v := ?_) rfl (by decide +kernel) (by decide +kernel) (by decide +kernel) (fun _ _ _ h => h) (Or.inl ⟨by rfl, ?_⟩) trivial ?_
              rotate_left
              · intro w _; (try simp only [List.getElem_toArray, List.getElem_cons_zero, List.getElem_cons_succ]); go_simp; try with_reducible rfl
              try simp only [List.getElem_toArray, List.getElem_cons_zero, List.getElem_cons_succ, Act.put, List.setIfInBounds_toArray, List.set_cons_zero, List.set_cons_succ]
              refine wpAnyH_take (i := 5) (v := ?_) rfl (by decide +kernel) (by decide +kernel) (by decide +kernel) (fun _ _ _ h => h) (Or.inl ⟨by rfl, ?_⟩) trivial ?_
              rotate_left
              · intro w _; (try simp only [List.getElem_toArray, List.getElem_cons_zero, List.getElem_cons_succ]); go_simp; try with_reducible rfl
              try simp only [List.getElem_toArray, List.getElem_cons_zero, List.getElem_cons_succ, Act.put, List.setIfInBounds_toArray, List.set_cons_zero, List.set_cons_succ]
              refine wpAnyH_ready (rs := [6]) (by decide +kernel) (by simp) ?_
              refine AllReadyH.cons rfl (fun K hK => ?_) ?_
              · (try simp only [List.getElem_toArray, List.getElem_cons_zero, List.getElem_cons_succ])
                go_simp
                refine hK.out _ _ trivial (fun _ => ?_)
                clear hK K
                try simp only [List.getElem_toArray, List.getElem_cons_zero, List.getElem_cons_succ, Act.put, List.setIfInBounds_toArray, List.set_cons_zero, List.set_cons_succ]
                refine wpAnyH_done (by decide +kernel) ?_ _
                go_wp2_with fail
                go_meet
                exact ⟨gd8.out, gv8.out, hb8.out⟩
              exact AllReadyH.nil
            exact AllReadyH.nil
          exact AllReadyH.nil
        refine AllReadyH.cons rfl (fun K hK => ?_) ?_
        · (try simp only [List.getElem_toArray, List.getElem_cons_zero, List.getElem_cons_succ])
          go_simp
          refine (c256.on _).mono ?_
          rintro e wq ⟨rfl, hbq⟩
          have gd9 := Lib.hid (isN_of hbq gd.out)
          have gv9 := Lib.hid (isN_of hbq gv.out)
          have hb9 := Lib.hid (hb.out.trans (hbq.mono hs))
          clear gd gv hb hs x0 x1 x2
          have gd := gd9
          have gv := gv9
          have hb := hb9
          clear hb9 hbq gd9 gv9
          have hs := hb.out.size
          obtain ⟨x0, x1, x2⟩ := gv.out.all
          dsimp only at x0 x1 x2
          go_simp
          refine hK.out _ _ trivial (fun _ => ?_)
          clear hK K
          try simp only [List.getElem_toArray, List.getElem_cons_zero, List.getElem_cons_succ, Act.put, List.setIfInBounds_toArray, List.set_cons_zero, List.set_cons_succ]
          refine wpAnyH_ready (rs := [0]) (by decide +kernel) (by simp) ?_
          refine AllReadyH.cons rfl (fun K hK => ?_) ?_
          · (try simp only [List.getElem_toArray, List.getElem_cons_zero])
            go_simp
            refine hK.out _ _ trivial (fun _ => ?_)
            clear hK K
            try simp only [List.getElem_toArray, List.getElem_cons_zero, List.getElem_cons_succ, Act.put, List.setIfInBounds_toArray, List.set_cons_zero, List.set_cons_succ]
            refine wpAnyH_ready (rs := [2]) (by decide +kernel) (by simp) ?_
            refine AllReadyH.cons rfl (fun K hK => ?_) ?_
            · (try simp only [List.getElem_toArray, List.getElem_cons_zero, List.getElem_cons_succ])
              go_simp
              refine (cmj.on _).mono ?_
              rintro e wq ⟨rfl, hbq⟩
              have gd9 := Lib.hid (isN_of hbq gd.out)
              have gv9 := Lib.hid (isN_of hbq gv.out)
              have hb9 := Lib.hid (hb.out.trans (hbq.mono hs))
              clear gd gv hb hs x0 x1 x2
              have gd := gd9
              have gv := gv9
              have hb := hb9
              clear hb9 hbq gd9 gv9
              have hs := hb.out.size
              obtain ⟨x0, x1, x2⟩ := gv.out.all
              dsimp only at x0 x1 x2
              have xf := gv.out.f
              have gv8 := Lib.hid (gv.out.set Yn Yh Yl)
              have gd8 := Lib.hid (gd.out.set3_other (c := w5.heap.size) (v0 := .bool Yn) (v1 := .int .u64 Yh) (v2 := .int .u64 Yl) (by omega))
              have hb8 := Lib.hid (below_set3 hb.out (b := w5.heap.size) (by omega) (.bool Yn) (.int .u64 Yh) (.int .u64 Yl))
              clear gd gv hb hs
              go_simp
              refine hK.out _ _ trivial (fun _ => ?_)
              clear hK K
              try simp only [List.getElem_toArray, List.getElem_cons_zero, List.getElem_cons_succ, Act.put, List.setIfInBounds_toArray, List.set_cons_zero, List.set_cons_succ]
              refine wpAnyH_take (i := 3) (v := ?_) rfl (by decide +kernel) (by decide +kernel) (by decide +kernel) (fun _ _ _ h => h) (Or.inl ⟨by rfl, ?_⟩) trivial ?_
              rotate_left
              · intro w _; (try simp only [List.getElem_toArray, List.getElem_cons_zero, List.getElem_cons_succ]); go_simp; try with_reducible rfl
              try simp only [List.getElem_toArray, List.getElem_cons_zero, List.getElem_cons_succ, Act.put, List.setIfInBounds_toArray, List.set_cons_zero, List.set_cons_succ]
              refine wpAnyH_take (i := 4) (v := ?_) rfl (by decide +kernel) (by decide +kernel) (by decide +kernel) (fun _ _ _ h => h) (Or.inl ⟨by rfl, ?_⟩) trivial ?_
              rotate_left
              · intro w _; (try simp only [List.getElem_toArray, List.getElem_cons_zero, List.getElem_cons_succ]); go_simp; try with_reducible rfl
              try simp only [List.getElem_toArray, List.getElem_cons_zero, List.getElem_cons_succ, Act.put, List.setIfInBounds_toArray, List.set_cons_zero, List.set_cons_succ]
              refine wpAnyH_take (i := 5) (v := ?_) rfl (by decide +kernel) (by decide +kernel) (by decide +kernel) (fun _ _ _ h => h) (Or.inl ⟨by rfl, ?_⟩) trivial ?_
              rotate_left
              · intro w _; (try simp only [List.getElem_toArray, List.getElem_cons_zero, List.getElem_cons_succ]); go_simp; try with_reducible rfl
              try simp only [List.getElem_toArray, List.getElem_cons_zero, List.getElem_cons_succ, Act.put, List.setIfInBounds_toArray, List.set_cons_zero, List.set_cons_succ]
              refine wpAnyH_ready (rs := [6]) (by decide +kernel) (by simp) ?_
              refine AllReadyH.cons rfl (fun K hK => ?_) ?_
              · (try simp only [List.getElem_toArray, List.getElem_cons_zero, List.getElem_cons_succ])
                go_simp
                refine hK.out _ _ trivial (fun _ => ?_)
                clear hK K
                try simp only [List.getElem_toArray, List.getElem_cons_zero, List.getElem_cons_succ, Act.put, List.setIfInBounds_toArray, List.set_cons_zero, List.set_cons_succ]
                refine wpAnyH_done (by decide +kernel) ?_ _
                go_wp2_with fail
                go_meet
                exact ⟨gd8.out, gv8.out, hb8.out⟩
              exact AllReadyH.nil
            exact AllReadyH.nil
          exact AllReadyH.nil
        exact AllReadyH.nil
      obtain ⟨gd0, gv0, hb0⟩ := hcut
      clear hs hb gd gv
      have gd := Lib.hid gd0
      have gv := Lib.hid gv0
      have hb := Lib.hid hb0
      clear hb0 gd0 gv0
      have hs := hb.out.size
      go_upto_region 9 with fail
      obtain ⟨x0, x1, x2⟩ := gv.out.drew.all
      dsimp only at x0 x1 x2
      replace gd := Lib.hid gd.out.drew
      replace gv := Lib.hid gv.out.drew
      replace hb := Lib.hid (below_drewed hb.out)
      clear hs
      have hs := hb.out.size
      refine wp_region_held_at (S := fun _ => True) 7 rfl (by kernel_rfl) trivial (fun _ => ?_)
      refine wpAnyH_ready (rs := [0, 1]) (by decide +kernel) (by simp) ?_
      refine AllReadyH.cons rfl (fun K hK => ?_) ?_
      · (try simp only [List.getElem_toArray, List.getElem_cons_zero])
        go_simp
        refine hK.out _ _ trivial (fun _ => ?_)
        clear hK K
        try simp only [List.getElem_toArray, List.getElem_cons_zero, List.getElem_cons_succ, Act.put, List.setIfInBounds_toArray, List.set_cons_zero, List.set_cons_succ]
        refine wpAnyH_ready (rs := [1]) (by decide +kernel) (by simp) ?_
        refine AllReadyH.cons rfl (fun K hK => ?_) ?_
        · (try simp only [List.getElem_toArray, List.getElem_cons_zero, List.getElem_cons_succ])
          go_simp
          refine (c255.on _).mono ?_
          rintro e wq ⟨rfl, hbq⟩
          have gd9 := Lib.hid (isN_of hbq gd.out)
          have gv9 := Lib.hid (isN_of hbq gv.out)
          have hb9 := Lib.hid (hb.out.trans (hbq.mono hs))
          clear gd gv hb hs x0 x1 x2
          have gd := gd9
          have gv := gv9
          have hb := hb9
          clear hb9 hbq gd9 gv9
          have hs := hb.out.size
          obtain ⟨x0, x1, x2⟩ := gv.out.all
          dsimp only at x0 x1 x2
          go_simp
          refine hK.out _ _ trivial (fun _ => ?_)
          clear hK K
          try simp only [List.getElem_toArray, List.getElem_cons_zero, List.getElem_cons_succ, Act.put, List.setIfInBounds_toArray, List.set_cons_zero, List.set_cons_succ]
          refine wpAnyH_ready (rs := [2]) (by decide +kernel) (by simp) ?_
          refine AllReadyH.cons rfl (fun K hK => ?_) ?_
          · (try simp only [List.getElem_toArray, List.getElem_cons_zero, List.getElem_cons_succ])
            go_simp
            refine (caj.on _).mono ?_
            rintro e wq ⟨rfl, hbq⟩
            have gd9 := Lib.hid (isN_of hbq gd.out)
            have gv9 := Lib.hid (isN_of hbq gv.out)
            have hb9 := Lib.hid (hb.out.trans (hbq.mono hs))
            clear gd gv hb hs x0 x1 x2
            have gd := gd9
            have gv := gv9
            have hb := hb9
            clear hb9 hbq gd9 gv9
            have hs := hb.out.size
            obtain ⟨x0, x1, x2⟩ := gv.out.all
            dsimp only at x0 x1 x2
            have xf := gv.out.f
            have gv8 := Lib.hid (gv.out.set Vn Vh Vl)
            have gd8 := Lib.hid (gd.out.set3_other (c := w5.heap.size) (v0 := .bool Vn) (v1 := .int .u64 Vh) (v2 := .int .u64 Vl) (by omega))
            have hb8 := Lib.hid (below_set3 hb.out (b := w5.heap.size) (by omega) (.bool Vn) (.int .u64 Vh) (.int .u64 Vl))
            clear gd gv hb hs
            go_simp
            refine hK.out _ _ trivial (fun _ => ?_)
            clear hK K
            try simp only [List.getElem_toArray, List.getElem_cons_zero, List.getElem_cons_succ, Act.put, List.setIfInBounds_toArray, List.set_cons_zero, List.set_cons_succ]
            refine wpAnyH_take (i := 3) (v := ?_) rfl (by decide +kernel) (by decide +kernel) (by decide +kernel) (fun _ _ _ h => h) (Or.inl ⟨by rfl, ?_⟩) trivial ?_
            rotate_left
            · intro w _; (try simp only [List.getElem_toArray, List.getElem_cons_zero, List.getElem_cons_succ]); go_simp; try with_reducible rfl
            try simp only [List.getElem_toArray, List.getElem_cons_zero, List.getElem_cons_succ, Act.put, List.setIfInBounds_toArray, List.set_cons_zero, List.set_cons_succ]
            refine wpAnyH_take (i := 4) (v := ?_) rfl (by decide +kernel) (by decide +kernel) (by decide +kernel) (fun _ _ _ h => h) (Or.inl ⟨by rfl, ?_⟩) trivial ?_
            rotate_left
            · intro w _; (try simp only [List.getElem_toArray, List.getElem_cons_zero, List.getElem_cons_succ]); go_simp; try with_reducible rfl
            try simp only [List.getElem_toArray, List.getElem_cons_zero, List.getElem_cons_succ, Act.put, List.setIfInBounds_toArray, List.set_cons_zero, List.set_cons_succ]
            refine wpAnyH_take (i := 5) (v := ?_) rfl (by decide +kernel) (by decide +kernel) (by decide +kernel) (fun _ _ _ h => h) (Or.inl ⟨by rfl, ?_⟩) trivial ?_
            rotate_left
            · intro w _; (try simp only [List.getElem_toArray, List.getElem_cons_zero, List.getElem_cons_succ]); go_simp; try with_reducible rfl
            try simp only [List.getElem_toArray, List.getElem_cons_zero, List.getElem_cons_succ, Act.put, List.setIfInBounds_toArray, List.set_cons_zero, List.set_cons_succ]
            refine wpAnyH_ready (rs := [6]) (by decide +kernel) (by simp) ?_
            refine AllReadyH.cons rfl (fun K hK => ?_) ?_
            · (try simp only [List.getElem_toArray, List.getElem_cons_zero, List.getElem_cons_succ])
              go_simp
              refine hK.out _ _ trivial (fun _ => ?_)
              clear hK K
              try simp only [List.getElem_toArray, List.getElem_cons_zero, List.getElem_cons_succ, Act.put, List.setIfInBounds_toArray, List.set_cons_zero, List.set_cons_succ]
              refine wpAnyH_done (by decide +kernel) ?_ _
              have gd := gd8
              have gv := gv8
              have hb := hb8
              have hs := hb.out.size
              clear hb8 gd8 gv8 xf x0 x1 x2
              go_wp2_with fail
              go_roundw
              case rel => exact ⟨j + 1, by omega, by go_num, gd.out, by rw [hV.out]; exact gv.out, hb.out⟩
              case measure => simp [intOf]; omega
            exact AllReadyH.nil
          exact AllReadyH.nil
        exact AllReadyH.nil
      refine AllReadyH.cons rfl (fun K hK => ?_) ?_
      · (try simp only [List.getElem_toArray, List.getElem_cons_zero, List.getElem_cons_succ])
        go_simp
        refine (c255.on _).mono ?_
        rintro e wq ⟨rfl, hbq⟩
        have gd9 := Lib.hid (isN_of hbq gd.out)
        have gv9 := Lib.hid (isN_of hbq gv.out)
        have hb9 := Lib.hid (hb.out.trans (hbq.mono hs))
        clear gd gv hb hs x0 x1 x2
        have gd := gd9
        have gv := gv9
        have hb := hb9
        clear hb9 hbq gd9 gv9
        have hs := hb.out.size
        obtain ⟨x0, x1, x2⟩ := gv.out.all
        dsimp only at x0 x1 x2
        go_simp
        refine hK.out _ _ trivial (fun _ => ?_)
        clear hK K
        try simp only [List.getElem_toArray, List.getElem_cons_zero, List.getElem_cons_succ, Act.put, List.setIfInBounds_toArray, List.set_cons_zero, List.set_cons_succ]
        refine wpAnyH_ready (rs := [0]) (by decide +kernel) (by simp) ?_
        refine AllReadyH.cons rfl (fun K hK => ?_) ?_
        · (try simp only [List.getElem_toArray, List.getElem_cons_zero])
          go_simp
          refine hK.out _ _ trivial (fun _ => ?_)
          clear hK K
          try simp only [List.getElem_toArray, List.getElem_cons_zero, List.getElem_cons_succ, Act.put, List.setIfInBounds_toArray, List.set_cons_zero, List.set_cons_succ]
          refine wpAnyH_ready (rs := [2]) (by decide +kernel) (by simp) ?_
          refine AllReadyH.cons rfl (fun K hK => ?_) ?_
          · (try simp only [List.getElem_toArray, List.getElem_cons_zero, List.getElem_cons_succ])
            go_simp
            refine (caj.on _).mono ?_
            rintro e wq ⟨rfl, hbq⟩
            have gd9 := Lib.hid (isN_of hbq gd.out)
            have gv9 := Lib.hid (isN_of hbq gv.out)
            have hb9 := Lib.hid (hb.out.trans (hbq.mono hs))
            clear gd gv hb hs x0 x1 x2
            have gd := gd9
            have gv := gv9
            have hb := hb9
            clear hb9 hbq gd9 gv9
            have hs := hb.out.size
            obtain ⟨x0, x1, x2⟩ := gv.out.all
            dsimp only at x0 x1 x2
            have xf := gv.out.f
            have gv8 := Lib.hid (gv.out.set Vn Vh Vl)
            have gd8 := Lib.hid (gd.out.set3_other (c := w5.heap.size) (v0 := .bool Vn) (v1 := .int .u64 Vh) (v2 := .int .u64 Vl) (by omega))
            have hb8 := Lib.hid (below_set3 hb.out (b := w5.heap.size) (by omega) (.bool Vn) (.int .u64 Vh) (.int .u64 Vl))
            clear gd gv hb hs
            go_simp
            refine hK.out _ _ trivial (fun _ => ?_)
            clear hK K
            try simp only [List.getElem_toArray, List.getElem_cons_zero, List.getElem_cons_succ, Act.put, List.setIfInBounds_toArray, List.set_cons_zero, List.set_cons_succ]
            refine wpAnyH_take (i := 3) (v := ?_) rfl (by decide +kernel) (by decide +kernel) (by decide +kernel) (fun _ _ _ h => h) (Or.inl ⟨by rfl, ?_⟩) trivial ?_
            rotate_left
            · intro w _; (try simp only [List.getElem_toArray, List.getElem_cons_zero, List.getElem_cons_succ]); go_simp; try with_reducible rfl
            try simp only [List.getElem_toArray, List.getElem_cons_zero, List.getElem_cons_succ, Act.put, List.setIfInBounds_toArray, List.set_cons_zero, List.set_cons_succ]
            refine wpAnyH_take (i := 4) (v := ?_) rfl (by decide +kernel) (by decide +kernel) (by decide +kernel) (fun _ _ _ h => h) (Or.inl ⟨by rfl, ?_⟩) trivial ?_
            rotate_left
            · intro w _; (try simp only [List.getElem_toArray, List.getElem_cons_zero, List.getElem_cons_succ]); go_simp; try with_reducible rfl
            try simp only [List.getElem_toArray, List.getElem_cons_zero, List.getElem_cons_succ, Act.put, List.setIfInBounds_toArray, List.set_cons_zero, List.set_cons_succ]
            refine wpAnyH_take (i := 5) (v := ?_) rfl (by decide +kernel) (by decide +kernel) (by decide +kernel) (fun _ _ _ h => h) (Or.inl ⟨by rfl, ?_⟩) trivial ?_
            rotate_left
            · intro w _; (try simp only [List.getElem_toArray, List.getElem_cons_zero, List.getElem_cons_succ]); go_simp; try with_reducible rfl
            try simp only [List.getElem_toArray, List.getElem_cons_zero, List.getElem_cons_succ, Act.put, List.setIfInBounds_toArray, List.set_cons_zero, List.set_cons_succ]
            refine wpAnyH_ready (rs := [6]) (by decide +kernel) (by simp) ?_
            refine AllReadyH.cons rfl (fun K hK => ?_) ?_
            · (try simp only [List.getElem_toArray, List.getElem_cons_zero, List.getElem_cons_succ])
              go_simp
              refine hK.out _ _ trivial (fun _ => ?_)
              clear hK K
              try simp only [List.getElem_toArray, List.getElem_cons_zero, List.getElem_cons_succ, Act.put, List.setIfInBounds_toArray, List.set_cons_zero, List.set_cons_succ]
              refine wpAnyH_done (by decide +kernel) ?_ _
              have gd := gd8
              have gv := gv8
              have hb := hb8
              have hs := hb.out.size
              clear hb8 gd8 gv8 xf x0 x1 x2
              go_wp2_with fail
              go_roundw
              case rel => exact ⟨j + 1, by omega, by go_num, gd.out, by rw [hV.out]; exact gv.out, hb.out⟩
              case measure => simp [intOf]; omega
            exact AllReadyH.nil
          exact AllReadyH.nil
        exact AllReadyH.nil
      exact AllReadyH.nil
    · obtain rfl : j = sz := by omega
      rw [← hD.out] at gv
      replace gv := Lib.hid gv
      go_wp2_with fail
      refine (cs.on _).mono ?_
      rintro e w31 ⟨rfl, hb31⟩
      replace gd := Lib.hid (isN_of hb31 gd.out)
      replace gv := Lib.hid (isN_of hb31 gv.out)
      replace hb := Lib.hid (hb.out.trans (hb31.mono hs))
      clear hs hb31
      have hs := hb.out.size
      obtain ⟨cd0, cd1, cd2⟩ := gd.out.all
      obtain ⟨cv0, cv1, cv2⟩ := gv.out.all
      dsimp only at cd0 cd1 cd2 cv0 cv1 cv2
      replace hk := hk.out
      go_wp2_with fail
      go_ret
      exact ⟨rfl, hb.out⟩
end Go.Proofs.Ytbfigpollacngaa
