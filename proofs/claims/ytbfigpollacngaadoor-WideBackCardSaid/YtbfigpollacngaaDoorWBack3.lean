/- the walk over WideBack -/
import Derived.Test.YtbfigpollacngaaDoorWvL
import Derived.Deep.RegionHeld3
import Derived.Deep.DrawnRows
namespace Go.Proofs.YtbfigpollacngaaDoor
open Go.RowKit
open Rf
open Wide
attribute [local go_sem ↓] Go.wp_at_zero Go.wp_at_succ

set_option maxRecDepth 10000 in
set_option maxHeartbeats 8000000 in
theorem wideBack_other0_over (x : WI) (ho : x.Ok) (hf : x.form = true) (y : WI) (hp : y.Ok) (hg : y.form = true) (hd : ¬ x.n = y.n) (f0 : (subF x y).2 = 3) (w : World) :
    Calls Tryd.prog 8 #[wv x, wv y] w fun e w' => e = .returned (.bool true) ∧ Below w.heap.size w w' := by
  have tl : ∀ v : WI, v.Ok → v.form = true → (text (textF v)).size ≤ maxLen := by
    intro v hv hfv
    obtain ⟨s, hs, ev, _⟩ := words v hv hfv
    rw [text_size]
    unfold textF
    rw [if_pos hfv, List.length_append]
    have hz : v.sz < 170141183460469231731687303715884105728 := (sz_bd hv hfv).2
    have h1 := digs_len 38 v.sz.toNat (Nat.lt_trans (by omega : v.sz.toNat < 170141183460469231731687303715884105728) (by decide))
    have h2 : (if v.n = true then [45] else ([] : List UInt8)).length ≤ 1 := by split <;> decide
    unfold maxLen
    omega
  have cf := form_c x ho
  rw [hf] at cf
  have ctx := text_c x ho
  have cpx := parse_c (text (textF x)) (tl x ho hf)
  rw [byts_text, text_form x ho hf] at cpx
  have cn := neg_c x ho
  have cm := neg_c (negF x) (negF_ok x ho)
  rw [negneg ho hf] at cm
  have cw := awake_c
  have cg := form_c y hp
  rw [hg] at cg
  have cty := text_c y hp
  have cs := sub_c x y ho hp
  have cxy := cmp_c x y ho hp
  have cyx := cmp_c y x hp ho
  have cd := sign_c (subF x y).1 (subF_ok x y)
  have hbk := back_law hf hg
  have hTT : (text (textF x)).toList = (text (textF y)).toList ↔ x = y := by rw [toList_text, toList_text]; exact text_inj ho hp hf hg
  have hcb : -1 ≤ cmpF y x ∧ cmpF y x ≤ 1 := by unfold cmpF; split <;> (try unfold sgn) <;> (try split) <;> (try split) <;> omega
  clear tl
  generalize text (textF x) = TX at *
  generalize text (textF y) = TY at *
  generalize subF x y = D at *
  generalize cmpF x y = c at *
  generalize cmpF y x = c' at *
  have hTf : (TX.toList == TY.toList) = false := beq_eq_false_iff_ne.2 (fun h => hd (by rw [hTT.1 h]))
  clear hTT hg hp
  subst hbk
  have hw : IntKind.i64.wrap (-c') = -c' := by simp [IntKind.wrap, IntKind.bits, IntKind.signed]; omega
  generalize signF D.1 = sd at *
  generalize negF x = N at *
  clear ho hf
  obtain ⟨⟨Dn, Dh, Dl⟩, De⟩ := D
  obtain ⟨Nn, Nh, Nl⟩ := N
  obtain ⟨xn, xh, xl⟩ := x
  obtain ⟨yn, yh, yl⟩ := y
  dsimp only at hd
  have hdb : (xn == yn) = false := by simpa using hd
  unfold wv at *
  dsimp only at *
  subst f0
  replace cf := Lib.hid cf
  replace ctx := Lib.hid ctx
  replace cpx := Lib.hid cpx
  replace cn := Lib.hid cn
  replace cm := Lib.hid cm
  replace cw := Lib.hid cw
  replace cs := Lib.hid cs
  replace cxy := Lib.hid cxy
  replace cd := Lib.hid cd
  replace cg := Lib.hid cg
  replace cty := Lib.hid cty
  replace cyx := Lib.hid cyx
  go_enter Tryd.func8, Tryd.ntmps8
  go_wp2_with fail
  refine (cw.out _).mono ?_
  rintro e w1 ⟨rfl, hb1⟩
  obtain ⟨gx, gy, hb⟩ := two_new (x := ⟨xn, xh, xl⟩) (y := ⟨yn, yh, yl⟩) hb1
  have hs := hb.size
  clear hb1
  replace gx := Lib.hid gx
  replace gy := Lib.hid gy
  replace hb := Lib.hid hb
  obtain ⟨cx0, cx1, cx2⟩ := gx.out.all
  dsimp only at cx0 cx1 cx2
  go_wp2_with fail
  refine (cf.out _).mono ?_
  rintro e w2 ⟨rfl, hb2⟩
  replace gx := Lib.hid (isN_of hb2 gx.out)
  replace gy := Lib.hid (isN_of hb2 gy.out)
  replace hb := Lib.hid (hb.out.trans (hb2.mono hs))
  clear hs hb2
  have hs := hb.out.size
  clear cx0 cx1 cx2
  obtain ⟨cy0, cy1, cy2⟩ := gy.out.all
  dsimp only at cy0 cy1 cy2
  go_wp2_with fail
  refine (cg.out _).mono ?_
  rintro e w3 ⟨rfl, hb3⟩
  replace gx := Lib.hid (isN_of hb3 gx.out)
  replace gy := Lib.hid (isN_of hb3 gy.out)
  replace hb := Lib.hid (hb.out.trans (hb3.mono hs))
  clear hs hb3
  have hs := hb.out.size
  clear cy0 cy1 cy2
  obtain ⟨cx0, cx1, cx2⟩ := gx.out.all
  dsimp only at cx0 cx1 cx2
  go_wp2_with fail
  refine (ctx.out _).mono ?_
  rintro e w4 ⟨rfl, hb4⟩
  replace gx := Lib.hid (isN_of hb4 gx.out)
  replace gy := Lib.hid (isN_of hb4 gy.out)
  replace hb := Lib.hid (hb.out.trans (hb4.mono hs))
  clear hs hb4
  have hs := hb.out.size
  clear cx0 cx1 cx2
  go_wp2_with fail
  refine (cpx.out _).mono ?_
  rintro e w5 ⟨rfl, hb5⟩
  replace gx := Lib.hid (isN_of hb5 gx.out)
  replace gy := Lib.hid (isN_of hb5 gy.out)
  replace hb := Lib.hid (hb.out.trans (hb5.mono hs))
  clear hs hb5
  have hs := hb.out.size
  replace gx := Lib.hid (gx.out.alloc (oN ⟨xn, xh, xl⟩))
  replace gy := Lib.hid (gy.out.alloc (oN ⟨xn, xh, xl⟩))
  have gz := Lib.hid (IsN.new w5 ⟨xn, xh, xl⟩)
  replace hb := Lib.hid (hb.out.alloc hs (oN ⟨xn, xh, xl⟩))
  clear hs
  have hs := hb.out.size
  replace hb := Lib.hid (below_drewed hb.out)
  clear hs
  have hs := hb.out.size
  obtain ⟨cx0, cx1, cx2⟩ := gx.out.all
  obtain ⟨cy0, cy1, cy2⟩ := gy.out.all
  obtain ⟨cz0, cz1, cz2⟩ := gz.out.all
  dsimp only at cx0 cx1 cx2 cy0 cy1 cy2 cz0 cz1 cz2
  have mk0 := Lib.hid trivial
  have mk1 := Lib.hid trivial
  go_wp2_with fail
  go_region_held3 (fun w1 => w1.cell? ⟨w.heap.size, 0, none⟩ = some (.bool xn) ∧ w1.cell? ⟨w.heap.size, 1, none⟩ = some (.int .u64 xh) ∧ w1.cell? ⟨w.heap.size, 2, none⟩ = some (.int .u64 xl) ∧ w1.cell? ⟨w.heap.size + 1, 0, none⟩ = some (.bool yn) ∧ w1.cell? ⟨w.heap.size + 1, 1, none⟩ = some (.int .u64 yh) ∧ w1.cell? ⟨w.heap.size + 1, 2, none⟩ = some (.int .u64 yl) ∧ w1.cell? ⟨w5.heap.size, 0, none⟩ = some (.bool xn) ∧ w1.cell? ⟨w5.heap.size, 1, none⟩ = some (.int .u64 xh) ∧ w1.cell? ⟨w5.heap.size, 2, none⟩ = some (.int .u64 xl)) (go_keep)
    (first
      | (go_at_call 16
         clear mk0
         refine (ctx.out _).mono ?_
         rintro e wr ⟨rfl, hbr⟩
         have hb2 := Lib.hid (hb.out.trans (hbr.mono hs))
         clear hb hs
         have hb := hb2
         clear hb2
         have hs := hb.out.size
         have gg := Lib.hid (isN_of hbr gx.out)
         clear gx
         have gx := gg
         clear gg
         have gg := Lib.hid (isN_of hbr gy.out)
         clear gy
         have gy := gg
         clear gg
         have gg := Lib.hid (isN_of hbr gz.out)
         clear gz
         have gz := gg
         clear gg
         clear hbr cx0 cx1 cx2 cy0 cy1 cy2 cz0 cz1 cz2
         obtain ⟨cx0, cx1, cx2⟩ := gx.out.all
         obtain ⟨cy0, cy1, cy2⟩ := gy.out.all
         obtain ⟨cz0, cz1, cz2⟩ := gz.out.all
         dsimp only at cx0 cx1 cx2 cy0 cy1 cy2 cz0 cz1 cz2)
      | (go_at_call 16
         clear mk1
         refine (cty.out _).mono ?_
         rintro e wr ⟨rfl, hbr⟩
         have hb2 := Lib.hid (hb.out.trans (hbr.mono hs))
         clear hb hs
         have hb := hb2
         clear hb2
         have hs := hb.out.size
         have gg := Lib.hid (isN_of hbr gx.out)
         clear gx
         have gx := gg
         clear gg
         have gg := Lib.hid (isN_of hbr gy.out)
         clear gy
         have gy := gg
         clear gg
         have gg := Lib.hid (isN_of hbr gz.out)
         clear gz
         have gz := gg
         clear gg
         clear hbr cx0 cx1 cx2 cy0 cy1 cy2 cz0 cz1 cz2
         obtain ⟨cx0, cx1, cx2⟩ := gx.out.all
         obtain ⟨cy0, cy1, cy2⟩ := gy.out.all
         obtain ⟨cz0, cz1, cz2⟩ := gz.out.all
         dsimp only at cx0 cx1 cx2 cy0 cy1 cy2 cz0 cz1 cz2))
  skip
  clear cx0 cx1 cx2 cy0 cy1 cy2 cz0 cz1 cz2
  obtain ⟨cx0, cx1, cx2⟩ := gx.out.all
  obtain ⟨cy0, cy1, cy2⟩ := gy.out.all
  dsimp only at cx0 cx1 cx2 cy0 cy1 cy2
  go_wp2_with fail
  refine (cs.out _).mono ?_
  rintro e w8 ⟨rfl, hb8⟩
  replace gx := Lib.hid (isN_of hb8 gx.out)
  replace gy := Lib.hid (isN_of hb8 gy.out)
  replace gz := Lib.hid (isN_of hb8 gz.out)
  replace hb := Lib.hid (hb.out.trans (hb8.mono hs))
  clear hs hb8
  have hs := hb.out.size
  replace gx := Lib.hid (gx.out.alloc (oN ⟨Dn, Dh, Dl⟩))
  replace gy := Lib.hid (gy.out.alloc (oN ⟨Dn, Dh, Dl⟩))
  replace gz := Lib.hid (gz.out.alloc (oN ⟨Dn, Dh, Dl⟩))
  have gd := Lib.hid (IsN.new w8 ⟨Dn, Dh, Dl⟩)
  replace hb := Lib.hid (hb.out.alloc hs (oN ⟨Dn, Dh, Dl⟩))
  clear hs
  have hs := hb.out.size
  replace hb := Lib.hid (below_drewed hb.out)
  clear hs
  have hs := hb.out.size
  clear cx0 cx1 cx2 cy0 cy1 cy2
  obtain ⟨cx0, cx1, cx2⟩ := gx.out.all
  obtain ⟨cy0, cy1, cy2⟩ := gy.out.all
  obtain ⟨cd0, cd1, cd2⟩ := gd.out.all
  dsimp only at cx0 cx1 cx2 cy0 cy1 cy2 cd0 cd1 cd2
  go_wp2_with fail
  refine wp_region_held_at (S := fun w1 => w1.cell? ⟨w.heap.size, 0, none⟩ = some (.bool xn) ∧ w1.cell? ⟨w.heap.size, 1, none⟩ = some (.int .u64 xh) ∧ w1.cell? ⟨w.heap.size, 2, none⟩ = some (.int .u64 xl) ∧ w1.cell? ⟨w.heap.size + 1, 0, none⟩ = some (.bool yn) ∧ w1.cell? ⟨w.heap.size + 1, 1, none⟩ = some (.int .u64 yh) ∧ w1.cell? ⟨w.heap.size + 1, 2, none⟩ = some (.int .u64 yl) ∧ w1.cell? ⟨w8.heap.size, 0, none⟩ = some (.bool Dn) ∧ w1.cell? ⟨w8.heap.size, 1, none⟩ = some (.int .u64 Dh) ∧ w1.cell? ⟨w8.heap.size, 2, none⟩ = some (.int .u64 Dl)) 28 rfl (by kernel_rfl) (by go_keep) (fun hH => ?_)
  refine wpAnyH_take (i := 0) (v := ?_) rfl (by decide +kernel) (by decide +kernel) (by decide +kernel) (fun _ _ _ h => h) (Or.inl ⟨by rfl, ?_⟩) (by assumption) ?_
  rotate_left
  · intro w1 hSw; (try dsimp only at hSw); (try simp only [List.getElem_toArray, List.getElem_cons_zero]); go_simp; try with_reducible rfl
  try simp only [List.getElem_toArray, List.getElem_cons_zero, Act.put, List.setIfInBounds_toArray, List.set_cons_zero, List.set_cons_succ]
  refine wpAnyH_take (i := 1) (v := ?_) rfl (by decide +kernel) (by decide +kernel) (by decide +kernel) (fun _ _ _ h => h) (Or.inl ⟨by rfl, ?_⟩) (by assumption) ?_
  rotate_left
  · intro w1 hSw; (try dsimp only at hSw); (try simp only [List.getElem_toArray, List.getElem_cons_zero, List.getElem_cons_succ]); go_simp; try with_reducible rfl
  try simp only [List.getElem_toArray, List.getElem_cons_zero, List.getElem_cons_succ, Act.put, List.setIfInBounds_toArray, List.set_cons_zero, List.set_cons_succ]
  refine wpAnyH_take (i := 3) (v := ?_) rfl (by decide +kernel) (by decide +kernel) (by decide +kernel) (fun _ _ _ h => h) (Or.inl ⟨by rfl, ?_⟩) (by assumption) ?_
  rotate_left
  · intro w1 hSw; (try dsimp only at hSw); (try simp only [List.getElem_toArray, List.getElem_cons_zero, List.getElem_cons_succ]); go_simp; try with_reducible rfl
  try simp only [List.getElem_toArray, List.getElem_cons_zero, List.getElem_cons_succ, Act.put, List.setIfInBounds_toArray, List.set_cons_zero, List.set_cons_succ]
  refine wpAnyH_take (i := 4) (v := ?_) rfl (by decide +kernel) (by decide +kernel) (by decide +kernel) (fun _ _ _ h => h) (Or.inl ⟨by rfl, ?_⟩) (by assumption) ?_
  rotate_left
  · intro w1 hSw; (try dsimp only at hSw); (try simp only [List.getElem_toArray, List.getElem_cons_zero, List.getElem_cons_succ]); go_simp; try with_reducible rfl
  try simp only [List.getElem_toArray, List.getElem_cons_zero, List.getElem_cons_succ, Act.put, List.setIfInBounds_toArray, List.set_cons_zero, List.set_cons_succ]
  refine wpAnyH_ready (rs := [2]) (by decide +kernel) (by simp) ?_
  refine AllReadyH.cons rfl (fun K hK => ?_) AllReadyH.nil
  (try simp only [List.getElem_toArray, List.getElem_cons_zero, List.getElem_cons_succ])
  go_simp
  refine (cxy.out _).mono ?_
  rintro e wr ⟨rfl, hbr⟩
  have hb2 := Lib.hid (hb.out.trans (hbr.mono hs))
  clear hb hs
  have hb := hb2
  clear hb2
  have hs := hb.out.size
  have gg := Lib.hid (isN_of hbr gx.out)
  clear gx
  have gx := gg
  clear gg
  have gg := Lib.hid (isN_of hbr gy.out)
  clear gy
  have gy := gg
  clear gg
  have gg := Lib.hid (isN_of hbr gd.out)
  clear gd
  have gd := gg
  clear gg
  clear hH hbr cx0 cx1 cx2 cy0 cy1 cy2 cd0 cd1 cd2
  obtain ⟨cx0, cx1, cx2⟩ := gx.out.all
  obtain ⟨cy0, cy1, cy2⟩ := gy.out.all
  obtain ⟨cd0, cd1, cd2⟩ := gd.out.all
  dsimp only at cx0 cx1 cx2 cy0 cy1 cy2 cd0 cd1 cd2
  go_simp
  refine hK.out _ _ (by go_keep) (fun hH => ?_)
  clear hK K
  try simp only [List.getElem_toArray, List.getElem_cons_zero, List.getElem_cons_succ, Act.put, List.setIfInBounds_toArray, List.set_cons_zero, List.set_cons_succ]
  refine wpAnyH_ready (rs := [5]) (by decide +kernel) (by simp) ?_
  refine AllReadyH.cons rfl (fun K hK => ?_) AllReadyH.nil
  (try simp only [List.getElem_toArray, List.getElem_cons_zero, List.getElem_cons_succ])
  go_simp
  refine (cyx.out _).mono ?_
  rintro e wr ⟨rfl, hbr⟩
  have hb2 := Lib.hid (hb.out.trans (hbr.mono hs))
  clear hb hs
  have hb := hb2
  clear hb2
  have hs := hb.out.size
  have gg := Lib.hid (isN_of hbr gx.out)
  clear gx
  have gx := gg
  clear gg
  have gg := Lib.hid (isN_of hbr gy.out)
  clear gy
  have gy := gg
  clear gg
  have gg := Lib.hid (isN_of hbr gd.out)
  clear gd
  have gd := gg
  clear gg
  clear hH hbr cx0 cx1 cx2 cy0 cy1 cy2 cd0 cd1 cd2
  obtain ⟨cx0, cx1, cx2⟩ := gx.out.all
  obtain ⟨cy0, cy1, cy2⟩ := gy.out.all
  obtain ⟨cd0, cd1, cd2⟩ := gd.out.all
  dsimp only at cx0 cx1 cx2 cy0 cy1 cy2 cd0 cd1 cd2
  go_simp
  refine hK.out _ _ (by go_keep) (fun hH => ?_)
  clear hK K
  try simp only [List.getElem_toArray, List.getElem_cons_zero, List.getElem_cons_succ, Act.put, List.setIfInBounds_toArray, List.set_cons_zero, List.set_cons_succ]
  refine wpAnyH_take (i := 6) (v := ?_) rfl (by decide +kernel) (by decide +kernel) (by decide +kernel) (fun _ _ _ h => h) (Or.inl ⟨by rfl, ?_⟩) (by assumption) ?_
  rotate_left
  · intro w1 hSw; (try dsimp only at hSw); (try simp only [List.getElem_toArray, List.getElem_cons_zero, List.getElem_cons_succ]); go_simp; try with_reducible rfl
  try simp only [List.getElem_toArray, List.getElem_cons_zero, List.getElem_cons_succ, Act.put, List.setIfInBounds_toArray, List.set_cons_zero, List.set_cons_succ]
  refine wpAnyH_take (i := 7) (v := ?_) rfl (by decide +kernel) (by decide +kernel) (by decide +kernel) (fun _ _ _ h => h) (Or.inl ⟨by rfl, ?_⟩) (by assumption) ?_
  rotate_left
  · intro w1 hSw; (try dsimp only at hSw); (try simp only [List.getElem_toArray, List.getElem_cons_zero, List.getElem_cons_succ]); go_simp; try with_reducible rfl
  try simp only [List.getElem_toArray, List.getElem_cons_zero, List.getElem_cons_succ, Act.put, List.setIfInBounds_toArray, List.set_cons_zero, List.set_cons_succ]
  refine wpAnyH_take (i := 8) (v := ?_) rfl (by decide +kernel) (by decide +kernel) (by decide +kernel) (fun _ _ _ h => h) (Or.inl ⟨by rfl, ?_⟩) (by assumption) ?_
  rotate_left
  · intro w1 hSw; (try dsimp only at hSw); (try simp only [List.getElem_toArray, List.getElem_cons_zero, List.getElem_cons_succ]); go_simp; try with_reducible rfl
  try simp only [List.getElem_toArray, List.getElem_cons_zero, List.getElem_cons_succ, Act.put, List.setIfInBounds_toArray, List.set_cons_zero, List.set_cons_succ]
  refine wpAnyH_take (i := 9) (v := ?_) rfl (by decide +kernel) (by decide +kernel) (by decide +kernel) (fun _ _ _ h => h) (Or.inl ⟨by rfl, ?_⟩) (by assumption) ?_
  rotate_left
  · intro w1 hSw; (try dsimp only at hSw); (try simp only [List.getElem_toArray, List.getElem_cons_zero, List.getElem_cons_succ]); go_simp; try with_reducible rfl
  try simp only [List.getElem_toArray, List.getElem_cons_zero, List.getElem_cons_succ, Act.put, List.setIfInBounds_toArray, List.set_cons_zero, List.set_cons_succ]
  refine wpAnyH_take (i := 10) (v := ?_) rfl (by decide +kernel) (by decide +kernel) (by decide +kernel) (fun _ _ _ h => h) (Or.inl ⟨by rfl, ?_⟩) (by assumption) ?_
  rotate_left
  · intro w1 hSw; (try dsimp only at hSw); (try simp only [List.getElem_toArray, List.getElem_cons_zero, List.getElem_cons_succ]); go_simp; try with_reducible rfl
  try simp only [List.getElem_toArray, List.getElem_cons_zero, List.getElem_cons_succ, Act.put, List.setIfInBounds_toArray, List.set_cons_zero, List.set_cons_succ]
  refine wpAnyH_take (i := 11) (v := ?_) rfl (by decide +kernel) (by decide +kernel) (by decide +kernel) (fun _ _ _ h => h) (Or.inl ⟨by rfl, ?_⟩) (by assumption) ?_
  rotate_left
  · intro w1 hSw; (try dsimp only at hSw); (try simp only [List.getElem_toArray, List.getElem_cons_zero, List.getElem_cons_succ]); go_simp; try with_reducible rfl
  try simp only [List.getElem_toArray, List.getElem_cons_zero, List.getElem_cons_succ, Act.put, List.setIfInBounds_toArray, List.set_cons_zero, List.set_cons_succ]
  refine wpAnyH_take (i := 12) (v := undef) rfl (by decide +kernel) (by decide +kernel) (by decide +kernel) (fun _ _ _ h => h) (Or.inr ⟨by rfl, rfl⟩) (by assumption) ?_
  try simp only [List.getElem_toArray, List.getElem_cons_zero, List.getElem_cons_succ, Act.put, List.setIfInBounds_toArray, List.set_cons_zero, List.set_cons_succ]
  refine wpAnyH_take (i := 13) (v := undef) rfl (by decide +kernel) (by decide +kernel) (by decide +kernel) (fun _ _ _ h => h) (Or.inr ⟨by rfl, rfl⟩) (by assumption) ?_
  try simp only [List.getElem_toArray, List.getElem_cons_zero, List.getElem_cons_succ, Act.put, List.setIfInBounds_toArray, List.set_cons_zero, List.set_cons_succ]
  refine wpAnyH_take (i := 14) (v := undef) rfl (by decide +kernel) (by decide +kernel) (by decide +kernel) (fun _ _ _ h => h) (Or.inr ⟨by rfl, rfl⟩) (by assumption) ?_
  try simp only [List.getElem_toArray, List.getElem_cons_zero, List.getElem_cons_succ, Act.put, List.setIfInBounds_toArray, List.set_cons_zero, List.set_cons_succ]
  refine wpAnyH_take (i := 15) (v := undef) rfl (by decide +kernel) (by decide +kernel) (by decide +kernel) (fun _ _ _ h => h) (Or.inr ⟨by rfl, rfl⟩) (by assumption) ?_
  try simp only [List.getElem_toArray, List.getElem_cons_zero, List.getElem_cons_succ, Act.put, List.setIfInBounds_toArray, List.set_cons_zero, List.set_cons_succ]
  refine wpAnyH_take (i := 16) (v := undef) rfl (by decide +kernel) (by decide +kernel) (by decide +kernel) (fun _ _ _ h => h) (Or.inr ⟨by rfl, rfl⟩) (by assumption) ?_
  try simp only [List.getElem_toArray, List.getElem_cons_zero, List.getElem_cons_succ, Act.put, List.setIfInBounds_toArray, List.set_cons_zero, List.set_cons_succ]
  refine wpAnyH_take (i := 17) (v := undef) rfl (by decide +kernel) (by decide +kernel) (by decide +kernel) (fun _ _ _ h => h) (Or.inr ⟨by rfl, rfl⟩) (by assumption) ?_
  try simp only [List.getElem_toArray, List.getElem_cons_zero, List.getElem_cons_succ, Act.put, List.setIfInBounds_toArray, List.set_cons_zero, List.set_cons_succ]
  refine wpAnyH_take (i := 18) (v := ?_) rfl (by decide +kernel) (by decide +kernel) (by decide +kernel) (fun _ _ _ h => h) (Or.inl ⟨by rfl, ?_⟩) (by assumption) ?_
  rotate_left
  · intro w1 hSw; (try dsimp only at hSw); (try simp only [List.getElem_toArray, List.getElem_cons_zero, List.getElem_cons_succ]); go_simp; try with_reducible rfl
  try simp only [List.getElem_toArray, List.getElem_cons_zero, List.getElem_cons_succ, Act.put, List.setIfInBounds_toArray, List.set_cons_zero, List.set_cons_succ]
  refine wpAnyH_take (i := 19) (v := ?_) rfl (by decide +kernel) (by decide +kernel) (by decide +kernel) (fun _ _ _ h => h) (Or.inl ⟨by rfl, ?_⟩) (by assumption) ?_
  rotate_left
  · intro w1 hSw; (try dsimp only at hSw); (try simp only [List.getElem_toArray, List.getElem_cons_zero, List.getElem_cons_succ]); go_simp; try with_reducible rfl
  try simp only [List.getElem_toArray, List.getElem_cons_zero, List.getElem_cons_succ, Act.put, List.setIfInBounds_toArray, List.set_cons_zero, List.set_cons_succ]
  refine wpAnyH_take (i := 20) (v := ?_) rfl (by decide +kernel) (by decide +kernel) (by decide +kernel) (fun _ _ _ h => h) (Or.inl ⟨by rfl, ?_⟩) (by assumption) ?_
  rotate_left
  · intro w1 hSw; (try dsimp only at hSw); (try simp only [List.getElem_toArray, List.getElem_cons_zero, List.getElem_cons_succ]); go_simp; try with_reducible rfl
  try simp only [List.getElem_toArray, List.getElem_cons_zero, List.getElem_cons_succ, Act.put, List.setIfInBounds_toArray, List.set_cons_zero, List.set_cons_succ]
  refine wpAnyH_take (i := 21) (v := ?_) rfl (by decide +kernel) (by decide +kernel) (by decide +kernel) (fun _ _ _ h => h) (Or.inl ⟨by rfl, ?_⟩) (by assumption) ?_
  rotate_left
  · intro w1 hSw; (try dsimp only at hSw); (try simp only [List.getElem_toArray, List.getElem_cons_zero, List.getElem_cons_succ]); go_simp; try with_reducible rfl
  try simp only [List.getElem_toArray, List.getElem_cons_zero, List.getElem_cons_succ, Act.put, List.setIfInBounds_toArray, List.set_cons_zero, List.set_cons_succ]
  refine wpAnyH_take (i := 24) (v := ?_) rfl (by decide +kernel) (by decide +kernel) (by decide +kernel) (fun _ _ _ h => h) (Or.inl ⟨by rfl, ?_⟩) (by assumption) ?_
  rotate_left
  · intro w1 hSw; (try dsimp only at hSw); (try simp only [List.getElem_toArray, List.getElem_cons_zero, List.getElem_cons_succ]); go_simp; try with_reducible rfl
  try simp only [List.getElem_toArray, List.getElem_cons_zero, List.getElem_cons_succ, Act.put, List.setIfInBounds_toArray, List.set_cons_zero, List.set_cons_succ]
  refine wpAnyH_ready (rs := [22]) (by decide +kernel) (by simp) ?_
  refine AllReadyH.cons rfl (fun K hK => ?_) AllReadyH.nil
  (try simp only [List.getElem_toArray, List.getElem_cons_zero, List.getElem_cons_succ])
  go_simp
  refine (cn.out _).mono ?_
  rintro e wr ⟨rfl, hbr⟩
  have hb2 := Lib.hid (hb.out.trans (hbr.mono hs))
  clear hb hs
  have hb := hb2
  clear hb2
  have hs := hb.out.size
  have gg := Lib.hid (isN_of hbr gx.out)
  clear gx
  have gx := gg
  clear gg
  have gg := Lib.hid (isN_of hbr gy.out)
  clear gy
  have gy := gg
  clear gg
  have gg := Lib.hid (isN_of hbr gd.out)
  clear gd
  have gd := gg
  clear gg
  clear hH hbr cx0 cx1 cx2 cy0 cy1 cy2 cd0 cd1 cd2
  obtain ⟨cx0, cx1, cx2⟩ := gx.out.all
  obtain ⟨cy0, cy1, cy2⟩ := gy.out.all
  obtain ⟨cd0, cd1, cd2⟩ := gd.out.all
  dsimp only at cx0 cx1 cx2 cy0 cy1 cy2 cd0 cd1 cd2
  go_simp
  refine hK.out _ _ (by go_keep) (fun hH => ?_)
  clear hK K
  try simp only [List.getElem_toArray, List.getElem_cons_zero, List.getElem_cons_succ, Act.put, List.setIfInBounds_toArray, List.set_cons_zero, List.set_cons_succ]
  refine wpAnyH_ready (rs := [23]) (by decide +kernel) (by simp) ?_
  refine AllReadyH.cons rfl (fun K hK => ?_) AllReadyH.nil
  (try simp only [List.getElem_toArray, List.getElem_cons_zero, List.getElem_cons_succ])
  go_simp
  refine (cm.out _).mono ?_
  rintro e wr ⟨rfl, hbr⟩
  have hb2 := Lib.hid (hb.out.trans (hbr.mono hs))
  clear hb hs
  have hb := hb2
  clear hb2
  have hs := hb.out.size
  have gg := Lib.hid (isN_of hbr gx.out)
  clear gx
  have gx := gg
  clear gg
  have gg := Lib.hid (isN_of hbr gy.out)
  clear gy
  have gy := gg
  clear gg
  have gg := Lib.hid (isN_of hbr gd.out)
  clear gd
  have gd := gg
  clear gg
  clear hH hbr cx0 cx1 cx2 cy0 cy1 cy2 cd0 cd1 cd2
  obtain ⟨cx0, cx1, cx2⟩ := gx.out.all
  obtain ⟨cy0, cy1, cy2⟩ := gy.out.all
  obtain ⟨cd0, cd1, cd2⟩ := gd.out.all
  dsimp only at cx0 cx1 cx2 cy0 cy1 cy2 cd0 cd1 cd2
  go_simp
  refine hK.out _ _ (by go_keep) (fun hH => ?_)
  clear hK K
  try simp only [List.getElem_toArray, List.getElem_cons_zero, List.getElem_cons_succ, Act.put, List.setIfInBounds_toArray, List.set_cons_zero, List.set_cons_succ]
  refine wpAnyH_take (i := 25) (v := ?_) rfl (by decide +kernel) (by decide +kernel) (by decide +kernel) (fun _ _ _ h => h) (Or.inl ⟨by rfl, ?_⟩) (by assumption) ?_
  rotate_left
  · intro w1 hSw; (try dsimp only at hSw); (try simp only [List.getElem_toArray, List.getElem_cons_zero, List.getElem_cons_succ]); go_simp; try with_reducible rfl
  try simp only [List.getElem_toArray, List.getElem_cons_zero, List.getElem_cons_succ, Act.put, List.setIfInBounds_toArray, List.set_cons_zero, List.set_cons_succ]
  refine wpAnyH_take (i := 26) (v := ?_) rfl (by decide +kernel) (by decide +kernel) (by decide +kernel) (fun _ _ _ h => h) (Or.inl ⟨by rfl, ?_⟩) (by assumption) ?_
  rotate_left
  · intro w1 hSw; (try dsimp only at hSw); (try simp only [List.getElem_toArray, List.getElem_cons_zero, List.getElem_cons_succ]); go_simp; try with_reducible rfl
  try simp only [List.getElem_toArray, List.getElem_cons_zero, List.getElem_cons_succ, Act.put, List.setIfInBounds_toArray, List.set_cons_zero, List.set_cons_succ]
  refine wpAnyH_take (i := 27) (v := ?_) rfl (by decide +kernel) (by decide +kernel) (by decide +kernel) (fun _ _ _ h => h) (Or.inl ⟨by rfl, ?_⟩) (by assumption) ?_
  rotate_left
  · intro w1 hSw; (try dsimp only at hSw); (try simp only [List.getElem_toArray, List.getElem_cons_zero, List.getElem_cons_succ]); go_simp; try with_reducible rfl
  try simp only [List.getElem_toArray, List.getElem_cons_zero, List.getElem_cons_succ, Act.put, List.setIfInBounds_toArray, List.set_cons_zero, List.set_cons_succ]
  refine wpAnyH_done (by decide +kernel) ?_ _
  clear hH
  go_wp2_with fail
  go_ret
  exact ⟨rfl, hb.out⟩

set_option maxRecDepth 10000 in
set_option maxHeartbeats 8000000 in
theorem wideBack_other1_over (x : WI) (ho : x.Ok) (hf : x.form = true) (y : WI) (hp : y.Ok) (hg : y.form = true) (h1 : x.n = y.n) (hd : ¬ x.h = y.h) (f0 : (subF x y).2 = 3) (w : World) :
    Calls Tryd.prog 8 #[wv x, wv y] w fun e w' => e = .returned (.bool true) ∧ Below w.heap.size w w' := by
  have tl : ∀ v : WI, v.Ok → v.form = true → (text (textF v)).size ≤ maxLen := by
    intro v hv hfv
    obtain ⟨s, hs, ev, _⟩ := words v hv hfv
    rw [text_size]
    unfold textF
    rw [if_pos hfv, List.length_append]
    have hz : v.sz < 170141183460469231731687303715884105728 := (sz_bd hv hfv).2
    have h1 := digs_len 38 v.sz.toNat (Nat.lt_trans (by omega : v.sz.toNat < 170141183460469231731687303715884105728) (by decide))
    have h2 : (if v.n = true then [45] else ([] : List UInt8)).length ≤ 1 := by split <;> decide
    unfold maxLen
    omega
  have cf := form_c x ho
  rw [hf] at cf
  have ctx := text_c x ho
  have cpx := parse_c (text (textF x)) (tl x ho hf)
  rw [byts_text, text_form x ho hf] at cpx
  have cn := neg_c x ho
  have cm := neg_c (negF x) (negF_ok x ho)
  rw [negneg ho hf] at cm
  have cw := awake_c
  have cg := form_c y hp
  rw [hg] at cg
  have cty := text_c y hp
  have cs := sub_c x y ho hp
  have cxy := cmp_c x y ho hp
  have cyx := cmp_c y x hp ho
  have cd := sign_c (subF x y).1 (subF_ok x y)
  have hbk := back_law hf hg
  have hTT : (text (textF x)).toList = (text (textF y)).toList ↔ x = y := by rw [toList_text, toList_text]; exact text_inj ho hp hf hg
  have hcb : -1 ≤ cmpF y x ∧ cmpF y x ≤ 1 := by unfold cmpF; split <;> (try unfold sgn) <;> (try split) <;> (try split) <;> omega
  clear tl
  generalize text (textF x) = TX at *
  generalize text (textF y) = TY at *
  generalize subF x y = D at *
  generalize cmpF x y = c at *
  generalize cmpF y x = c' at *
  have hTf : (TX.toList == TY.toList) = false := beq_eq_false_iff_ne.2 (fun h => hd (by rw [hTT.1 h]))
  clear hTT hg hp
  subst hbk
  have hw : IntKind.i64.wrap (-c') = -c' := by simp [IntKind.wrap, IntKind.bits, IntKind.signed]; omega
  generalize signF D.1 = sd at *
  generalize negF x = N at *
  clear ho hf
  obtain ⟨⟨Dn, Dh, Dl⟩, De⟩ := D
  obtain ⟨Nn, Nh, Nl⟩ := N
  obtain ⟨xn, xh, xl⟩ := x
  obtain ⟨yn, yh, yl⟩ := y
  dsimp only at hd h1
  subst h1
  have hdb : (xh == yh) = false := by simpa using hd
  unfold wv at *
  dsimp only at *
  subst f0
  replace cf := Lib.hid cf
  replace ctx := Lib.hid ctx
  replace cpx := Lib.hid cpx
  replace cn := Lib.hid cn
  replace cm := Lib.hid cm
  replace cw := Lib.hid cw
  replace cs := Lib.hid cs
  replace cxy := Lib.hid cxy
  replace cd := Lib.hid cd
  replace cg := Lib.hid cg
  replace cty := Lib.hid cty
  replace cyx := Lib.hid cyx
  go_enter Tryd.func8, Tryd.ntmps8
  go_wp2_with fail
  refine (cw.out _).mono ?_
  rintro e w1 ⟨rfl, hb1⟩
  obtain ⟨gx, gy, hb⟩ := two_new (x := ⟨xn, xh, xl⟩) (y := ⟨xn, yh, yl⟩) hb1
  have hs := hb.size
  clear hb1
  replace gx := Lib.hid gx
  replace gy := Lib.hid gy
  replace hb := Lib.hid hb
  obtain ⟨cx0, cx1, cx2⟩ := gx.out.all
  dsimp only at cx0 cx1 cx2
  go_wp2_with fail
  refine (cf.out _).mono ?_
  rintro e w2 ⟨rfl, hb2⟩
  replace gx := Lib.hid (isN_of hb2 gx.out)
  replace gy := Lib.hid (isN_of hb2 gy.out)
  replace hb := Lib.hid (hb.out.trans (hb2.mono hs))
  clear hs hb2
  have hs := hb.out.size
  clear cx0 cx1 cx2
  obtain ⟨cy0, cy1, cy2⟩ := gy.out.all
  dsimp only at cy0 cy1 cy2
  go_wp2_with fail
  refine (cg.out _).mono ?_
  rintro e w3 ⟨rfl, hb3⟩
  replace gx := Lib.hid (isN_of hb3 gx.out)
  replace gy := Lib.hid (isN_of hb3 gy.out)
  replace hb := Lib.hid (hb.out.trans (hb3.mono hs))
  clear hs hb3
  have hs := hb.out.size
  clear cy0 cy1 cy2
  obtain ⟨cx0, cx1, cx2⟩ := gx.out.all
  dsimp only at cx0 cx1 cx2
  go_wp2_with fail
  refine (ctx.out _).mono ?_
  rintro e w4 ⟨rfl, hb4⟩
  replace gx := Lib.hid (isN_of hb4 gx.out)
  replace gy := Lib.hid (isN_of hb4 gy.out)
  replace hb := Lib.hid (hb.out.trans (hb4.mono hs))
  clear hs hb4
  have hs := hb.out.size
  clear cx0 cx1 cx2
  go_wp2_with fail
  refine (cpx.out _).mono ?_
  rintro e w5 ⟨rfl, hb5⟩
  replace gx := Lib.hid (isN_of hb5 gx.out)
  replace gy := Lib.hid (isN_of hb5 gy.out)
  replace hb := Lib.hid (hb.out.trans (hb5.mono hs))
  clear hs hb5
  have hs := hb.out.size
  replace gx := Lib.hid (gx.out.alloc (oN ⟨xn, xh, xl⟩))
  replace gy := Lib.hid (gy.out.alloc (oN ⟨xn, xh, xl⟩))
  have gz := Lib.hid (IsN.new w5 ⟨xn, xh, xl⟩)
  replace hb := Lib.hid (hb.out.alloc hs (oN ⟨xn, xh, xl⟩))
  clear hs
  have hs := hb.out.size
  replace hb := Lib.hid (below_drewed hb.out)
  clear hs
  have hs := hb.out.size
  obtain ⟨cx0, cx1, cx2⟩ := gx.out.all
  obtain ⟨cy0, cy1, cy2⟩ := gy.out.all
  obtain ⟨cz0, cz1, cz2⟩ := gz.out.all
  dsimp only at cx0 cx1 cx2 cy0 cy1 cy2 cz0 cz1 cz2
  have mk0 := Lib.hid trivial
  have mk1 := Lib.hid trivial
  go_wp2_with fail
  go_region_held3 (fun w1 => w1.cell? ⟨w.heap.size, 0, none⟩ = some (.bool xn) ∧ w1.cell? ⟨w.heap.size, 1, none⟩ = some (.int .u64 xh) ∧ w1.cell? ⟨w.heap.size, 2, none⟩ = some (.int .u64 xl) ∧ w1.cell? ⟨w.heap.size + 1, 0, none⟩ = some (.bool xn) ∧ w1.cell? ⟨w.heap.size + 1, 1, none⟩ = some (.int .u64 yh) ∧ w1.cell? ⟨w.heap.size + 1, 2, none⟩ = some (.int .u64 yl) ∧ w1.cell? ⟨w5.heap.size, 0, none⟩ = some (.bool xn) ∧ w1.cell? ⟨w5.heap.size, 1, none⟩ = some (.int .u64 xh) ∧ w1.cell? ⟨w5.heap.size, 2, none⟩ = some (.int .u64 xl)) (go_keep)
    (first
      | (go_at_call 16
         clear mk0
         refine (ctx.out _).mono ?_
         rintro e wr ⟨rfl, hbr⟩
         have hb2 := Lib.hid (hb.out.trans (hbr.mono hs))
         clear hb hs
         have hb := hb2
         clear hb2
         have hs := hb.out.size
         have gg := Lib.hid (isN_of hbr gx.out)
         clear gx
         have gx := gg
         clear gg
         have gg := Lib.hid (isN_of hbr gy.out)
         clear gy
         have gy := gg
         clear gg
         have gg := Lib.hid (isN_of hbr gz.out)
         clear gz
         have gz := gg
         clear gg
         clear hbr cx0 cx1 cx2 cy0 cy1 cy2 cz0 cz1 cz2
         obtain ⟨cx0, cx1, cx2⟩ := gx.out.all
         obtain ⟨cy0, cy1, cy2⟩ := gy.out.all
         obtain ⟨cz0, cz1, cz2⟩ := gz.out.all
         dsimp only at cx0 cx1 cx2 cy0 cy1 cy2 cz0 cz1 cz2)
      | (go_at_call 16
         clear mk1
         refine (cty.out _).mono ?_
         rintro e wr ⟨rfl, hbr⟩
         have hb2 := Lib.hid (hb.out.trans (hbr.mono hs))
         clear hb hs
         have hb := hb2
         clear hb2
         have hs := hb.out.size
         have gg := Lib.hid (isN_of hbr gx.out)
         clear gx
         have gx := gg
         clear gg
         have gg := Lib.hid (isN_of hbr gy.out)
         clear gy
         have gy := gg
         clear gg
         have gg := Lib.hid (isN_of hbr gz.out)
         clear gz
         have gz := gg
         clear gg
         clear hbr cx0 cx1 cx2 cy0 cy1 cy2 cz0 cz1 cz2
         obtain ⟨cx0, cx1, cx2⟩ := gx.out.all
         obtain ⟨cy0, cy1, cy2⟩ := gy.out.all
         obtain ⟨cz0, cz1, cz2⟩ := gz.out.all
         dsimp only at cx0 cx1 cx2 cy0 cy1 cy2 cz0 cz1 cz2))
  skip
  clear cx0 cx1 cx2 cy0 cy1 cy2 cz0 cz1 cz2
  obtain ⟨cx0, cx1, cx2⟩ := gx.out.all
  obtain ⟨cy0, cy1, cy2⟩ := gy.out.all
  dsimp only at cx0 cx1 cx2 cy0 cy1 cy2
  go_wp2_with fail
  refine (cs.out _).mono ?_
  rintro e w8 ⟨rfl, hb8⟩
  replace gx := Lib.hid (isN_of hb8 gx.out)
  replace gy := Lib.hid (isN_of hb8 gy.out)
  replace gz := Lib.hid (isN_of hb8 gz.out)
  replace hb := Lib.hid (hb.out.trans (hb8.mono hs))
  clear hs hb8
  have hs := hb.out.size
  replace gx := Lib.hid (gx.out.alloc (oN ⟨Dn, Dh, Dl⟩))
  replace gy := Lib.hid (gy.out.alloc (oN ⟨Dn, Dh, Dl⟩))
  replace gz := Lib.hid (gz.out.alloc (oN ⟨Dn, Dh, Dl⟩))
  have gd := Lib.hid (IsN.new w8 ⟨Dn, Dh, Dl⟩)
  replace hb := Lib.hid (hb.out.alloc hs (oN ⟨Dn, Dh, Dl⟩))
  clear hs
  have hs := hb.out.size
  replace hb := Lib.hid (below_drewed hb.out)
  clear hs
  have hs := hb.out.size
  clear cx0 cx1 cx2 cy0 cy1 cy2
  obtain ⟨cx0, cx1, cx2⟩ := gx.out.all
  obtain ⟨cy0, cy1, cy2⟩ := gy.out.all
  obtain ⟨cd0, cd1, cd2⟩ := gd.out.all
  dsimp only at cx0 cx1 cx2 cy0 cy1 cy2 cd0 cd1 cd2
  go_wp2_with fail
  refine wp_region_held_at (S := fun w1 => w1.cell? ⟨w.heap.size, 0, none⟩ = some (.bool xn) ∧ w1.cell? ⟨w.heap.size, 1, none⟩ = some (.int .u64 xh) ∧ w1.cell? ⟨w.heap.size, 2, none⟩ = some (.int .u64 xl) ∧ w1.cell? ⟨w.heap.size + 1, 0, none⟩ = some (.bool xn) ∧ w1.cell? ⟨w.heap.size + 1, 1, none⟩ = some (.int .u64 yh) ∧ w1.cell? ⟨w.heap.size + 1, 2, none⟩ = some (.int .u64 yl) ∧ w1.cell? ⟨w8.heap.size, 0, none⟩ = some (.bool Dn) ∧ w1.cell? ⟨w8.heap.size, 1, none⟩ = some (.int .u64 Dh) ∧ w1.cell? ⟨w8.heap.size, 2, none⟩ = some (.int .u64 Dl)) 28 rfl (by kernel_rfl) (by go_keep) (fun hH => ?_)
  refine wpAnyH_take (i := 0) (v := ?_) rfl (by decide +kernel) (by decide +kernel) (by decide +kernel) (fun _ _ _ h => h) (Or.inl ⟨by rfl, ?_⟩) (by assumption) ?_
  rotate_left
  · intro w1 hSw; (try dsimp only at hSw); (try simp only [List.getElem_toArray, List.getElem_cons_zero]); go_simp; try with_reducible rfl
  try simp only [List.getElem_toArray, List.getElem_cons_zero, Act.put, List.setIfInBounds_toArray, List.set_cons_zero, List.set_cons_succ]
  refine wpAnyH_take (i := 1) (v := ?_) rfl (by decide +kernel) (by decide +kernel) (by decide +kernel) (fun _ _ _ h => h) (Or.inl ⟨by rfl, ?_⟩) (by assumption) ?_
  rotate_left
  · intro w1 hSw; (try dsimp only at hSw); (try simp only [List.getElem_toArray, List.getElem_cons_zero, List.getElem_cons_succ]); go_simp; try with_reducible rfl
  try simp only [List.getElem_toArray, List.getElem_cons_zero, List.getElem_cons_succ, Act.put, List.setIfInBounds_toArray, List.set_cons_zero, List.set_cons_succ]
  refine wpAnyH_take (i := 3) (v := ?_) rfl (by decide +kernel) (by decide +kernel) (by decide +kernel) (fun _ _ _ h => h) (Or.inl ⟨by rfl, ?_⟩) (by assumption) ?_
  rotate_left
  · intro w1 hSw; (try dsimp only at hSw); (try simp only [List.getElem_toArray, List.getElem_cons_zero, List.getElem_cons_succ]); go_simp; try with_reducible rfl
  try simp only [List.getElem_toArray, List.getElem_cons_zero, List.getElem_cons_succ, Act.put, List.setIfInBounds_toArray, List.set_cons_zero, List.set_cons_succ]
  refine wpAnyH_take (i := 4) (v := ?_) rfl (by decide +kernel) (by decide +kernel) (by decide +kernel) (fun _ _ _ h => h) (Or.inl ⟨by rfl, ?_⟩) (by assumption) ?_
  rotate_left
  · intro w1 hSw; (try dsimp only at hSw); (try simp only [List.getElem_toArray, List.getElem_cons_zero, List.getElem_cons_succ]); go_simp; try with_reducible rfl
  try simp only [List.getElem_toArray, List.getElem_cons_zero, List.getElem_cons_succ, Act.put, List.setIfInBounds_toArray, List.set_cons_zero, List.set_cons_succ]
  refine wpAnyH_ready (rs := [2]) (by decide +kernel) (by simp) ?_
  refine AllReadyH.cons rfl (fun K hK => ?_) AllReadyH.nil
  (try simp only [List.getElem_toArray, List.getElem_cons_zero, List.getElem_cons_succ])
  go_simp
  refine (cxy.out _).mono ?_
  rintro e wr ⟨rfl, hbr⟩
  have hb2 := Lib.hid (hb.out.trans (hbr.mono hs))
  clear hb hs
  have hb := hb2
  clear hb2
  have hs := hb.out.size
  have gg := Lib.hid (isN_of hbr gx.out)
  clear gx
  have gx := gg
  clear gg
  have gg := Lib.hid (isN_of hbr gy.out)
  clear gy
  have gy := gg
  clear gg
  have gg := Lib.hid (isN_of hbr gd.out)
  clear gd
  have gd := gg
  clear gg
  clear hH hbr cx0 cx1 cx2 cy0 cy1 cy2 cd0 cd1 cd2
  obtain ⟨cx0, cx1, cx2⟩ := gx.out.all
  obtain ⟨cy0, cy1, cy2⟩ := gy.out.all
  obtain ⟨cd0, cd1, cd2⟩ := gd.out.all
  dsimp only at cx0 cx1 cx2 cy0 cy1 cy2 cd0 cd1 cd2
  go_simp
  refine hK.out _ _ (by go_keep) (fun hH => ?_)
  clear hK K
  try simp only [List.getElem_toArray, List.getElem_cons_zero, List.getElem_cons_succ, Act.put, List.setIfInBounds_toArray, List.set_cons_zero, List.set_cons_succ]
  refine wpAnyH_ready (rs := [5]) (by decide +kernel) (by simp) ?_
  refine AllReadyH.cons rfl (fun K hK => ?_) AllReadyH.nil
  (try simp only [List.getElem_toArray, List.getElem_cons_zero, List.getElem_cons_succ])
  go_simp
  refine (cyx.out _).mono ?_
  rintro e wr ⟨rfl, hbr⟩
  have hb2 := Lib.hid (hb.out.trans (hbr.mono hs))
  clear hb hs
  have hb := hb2
  clear hb2
  have hs := hb.out.size
  have gg := Lib.hid (isN_of hbr gx.out)
  clear gx
  have gx := gg
  clear gg
  have gg := Lib.hid (isN_of hbr gy.out)
  clear gy
  have gy := gg
  clear gg
  have gg := Lib.hid (isN_of hbr gd.out)
  clear gd
  have gd := gg
  clear gg
  clear hH hbr cx0 cx1 cx2 cy0 cy1 cy2 cd0 cd1 cd2
  obtain ⟨cx0, cx1, cx2⟩ := gx.out.all
  obtain ⟨cy0, cy1, cy2⟩ := gy.out.all
  obtain ⟨cd0, cd1, cd2⟩ := gd.out.all
  dsimp only at cx0 cx1 cx2 cy0 cy1 cy2 cd0 cd1 cd2
  go_simp
  refine hK.out _ _ (by go_keep) (fun hH => ?_)
  clear hK K
  try simp only [List.getElem_toArray, List.getElem_cons_zero, List.getElem_cons_succ, Act.put, List.setIfInBounds_toArray, List.set_cons_zero, List.set_cons_succ]
  refine wpAnyH_take (i := 6) (v := ?_) rfl (by decide +kernel) (by decide +kernel) (by decide +kernel) (fun _ _ _ h => h) (Or.inl ⟨by rfl, ?_⟩) (by assumption) ?_
  rotate_left
  · intro w1 hSw; (try dsimp only at hSw); (try simp only [List.getElem_toArray, List.getElem_cons_zero, List.getElem_cons_succ]); go_simp; try with_reducible rfl
  try simp only [List.getElem_toArray, List.getElem_cons_zero, List.getElem_cons_succ, Act.put, List.setIfInBounds_toArray, List.set_cons_zero, List.set_cons_succ]
  refine wpAnyH_take (i := 7) (v := ?_) rfl (by decide +kernel) (by decide +kernel) (by decide +kernel) (fun _ _ _ h => h) (Or.inl ⟨by rfl, ?_⟩) (by assumption) ?_
  rotate_left
  · intro w1 hSw; (try dsimp only at hSw); (try simp only [List.getElem_toArray, List.getElem_cons_zero, List.getElem_cons_succ]); go_simp; try with_reducible rfl
  try simp only [List.getElem_toArray, List.getElem_cons_zero, List.getElem_cons_succ, Act.put, List.setIfInBounds_toArray, List.set_cons_zero, List.set_cons_succ]
  refine wpAnyH_take (i := 8) (v := ?_) rfl (by decide +kernel) (by decide +kernel) (by decide +kernel) (fun _ _ _ h => h) (Or.inl ⟨by rfl, ?_⟩) (by assumption) ?_
  rotate_left
  · intro w1 hSw; (try dsimp only at hSw); (try simp only [List.getElem_toArray, List.getElem_cons_zero, List.getElem_cons_succ]); go_simp; try with_reducible rfl
  try simp only [List.getElem_toArray, List.getElem_cons_zero, List.getElem_cons_succ, Act.put, List.setIfInBounds_toArray, List.set_cons_zero, List.set_cons_succ]
  refine wpAnyH_take (i := 9) (v := ?_) rfl (by decide +kernel) (by decide +kernel) (by decide +kernel) (fun _ _ _ h => h) (Or.inl ⟨by rfl, ?_⟩) (by assumption) ?_
  rotate_left
  · intro w1 hSw; (try dsimp only at hSw); (try simp only [List.getElem_toArray, List.getElem_cons_zero, List.getElem_cons_succ]); go_simp; try with_reducible rfl
  try simp only [List.getElem_toArray, List.getElem_cons_zero, List.getElem_cons_succ, Act.put, List.setIfInBounds_toArray, List.set_cons_zero, List.set_cons_succ]
  refine wpAnyH_take (i := 10) (v := ?_) rfl (by decide +kernel) (by decide +kernel) (by decide +kernel) (fun _ _ _ h => h) (Or.inl ⟨by rfl, ?_⟩) (by assumption) ?_
  rotate_left
  · intro w1 hSw; (try dsimp only at hSw); (try simp only [List.getElem_toArray, List.getElem_cons_zero, List.getElem_cons_succ]); go_simp; try with_reducible rfl
  try simp only [List.getElem_toArray, List.getElem_cons_zero, List.getElem_cons_succ, Act.put, List.setIfInBounds_toArray, List.set_cons_zero, List.set_cons_succ]
  refine wpAnyH_take (i := 11) (v := ?_) rfl (by decide +kernel) (by decide +kernel) (by decide +kernel) (fun _ _ _ h => h) (Or.inl ⟨by rfl, ?_⟩) (by assumption) ?_
  rotate_left
  · intro w1 hSw; (try dsimp only at hSw); (try simp only [List.getElem_toArray, List.getElem_cons_zero, List.getElem_cons_succ]); go_simp; try with_reducible rfl
  try simp only [List.getElem_toArray, List.getElem_cons_zero, List.getElem_cons_succ, Act.put, List.setIfInBounds_toArray, List.set_cons_zero, List.set_cons_succ]
  refine wpAnyH_take (i := 12) (v := undef) rfl (by decide +kernel) (by decide +kernel) (by decide +kernel) (fun _ _ _ h => h) (Or.inr ⟨by rfl, rfl⟩) (by assumption) ?_
  try simp only [List.getElem_toArray, List.getElem_cons_zero, List.getElem_cons_succ, Act.put, List.setIfInBounds_toArray, List.set_cons_zero, List.set_cons_succ]
  refine wpAnyH_take (i := 13) (v := undef) rfl (by decide +kernel) (by decide +kernel) (by decide +kernel) (fun _ _ _ h => h) (Or.inr ⟨by rfl, rfl⟩) (by assumption) ?_
  try simp only [List.getElem_toArray, List.getElem_cons_zero, List.getElem_cons_succ, Act.put, List.setIfInBounds_toArray, List.set_cons_zero, List.set_cons_succ]
  refine wpAnyH_take (i := 14) (v := undef) rfl (by decide +kernel) (by decide +kernel) (by decide +kernel) (fun _ _ _ h => h) (Or.inr ⟨by rfl, rfl⟩) (by assumption) ?_
  try simp only [List.getElem_toArray, List.getElem_cons_zero, List.getElem_cons_succ, Act.put, List.setIfInBounds_toArray, List.set_cons_zero, List.set_cons_succ]
  refine wpAnyH_take (i := 15) (v := undef) rfl (by decide +kernel) (by decide +kernel) (by decide +kernel) (fun _ _ _ h => h) (Or.inr ⟨by rfl, rfl⟩) (by assumption) ?_
  try simp only [List.getElem_toArray, List.getElem_cons_zero, List.getElem_cons_succ, Act.put, List.setIfInBounds_toArray, List.set_cons_zero, List.set_cons_succ]
  refine wpAnyH_take (i := 16) (v := undef) rfl (by decide +kernel) (by decide +kernel) (by decide +kernel) (fun _ _ _ h => h) (Or.inr ⟨by rfl, rfl⟩) (by assumption) ?_
  try simp only [List.getElem_toArray, List.getElem_cons_zero, List.getElem_cons_succ, Act.put, List.setIfInBounds_toArray, List.set_cons_zero, List.set_cons_succ]
  refine wpAnyH_take (i := 17) (v := undef) rfl (by decide +kernel) (by decide +kernel) (by decide +kernel) (fun _ _ _ h => h) (Or.inr ⟨by rfl, rfl⟩) (by assumption) ?_
  try simp only [List.getElem_toArray, List.getElem_cons_zero, List.getElem_cons_succ, Act.put, List.setIfInBounds_toArray, List.set_cons_zero, List.set_cons_succ]
  refine wpAnyH_take (i := 18) (v := ?_) rfl (by decide +kernel) (by decide +kernel) (by decide +kernel) (fun _ _ _ h => h) (Or.inl ⟨by rfl, ?_⟩) (by assumption) ?_
  rotate_left
  · intro w1 hSw; (try dsimp only at hSw); (try simp only [List.getElem_toArray, List.getElem_cons_zero, List.getElem_cons_succ]); go_simp; try with_reducible rfl
  try simp only [List.getElem_toArray, List.getElem_cons_zero, List.getElem_cons_succ, Act.put, List.setIfInBounds_toArray, List.set_cons_zero, List.set_cons_succ]
  refine wpAnyH_take (i := 19) (v := ?_) rfl (by decide +kernel) (by decide +kernel) (by decide +kernel) (fun _ _ _ h => h) (Or.inl ⟨by rfl, ?_⟩) (by assumption) ?_
  rotate_left
  · intro w1 hSw; (try dsimp only at hSw); (try simp only [List.getElem_toArray, List.getElem_cons_zero, List.getElem_cons_succ]); go_simp; try with_reducible rfl
  try simp only [List.getElem_toArray, List.getElem_cons_zero, List.getElem_cons_succ, Act.put, List.setIfInBounds_toArray, List.set_cons_zero, List.set_cons_succ]
  refine wpAnyH_take (i := 20) (v := ?_) rfl (by decide +kernel) (by decide +kernel) (by decide +kernel) (fun _ _ _ h => h) (Or.inl ⟨by rfl, ?_⟩) (by assumption) ?_
  rotate_left
  · intro w1 hSw; (try dsimp only at hSw); (try simp only [List.getElem_toArray, List.getElem_cons_zero, List.getElem_cons_succ]); go_simp; try with_reducible rfl
  try simp only [List.getElem_toArray, List.getElem_cons_zero, List.getElem_cons_succ, Act.put, List.setIfInBounds_toArray, List.set_cons_zero, List.set_cons_succ]
  refine wpAnyH_take (i := 21) (v := ?_) rfl (by decide +kernel) (by decide +kernel) (by decide +kernel) (fun _ _ _ h => h) (Or.inl ⟨by rfl, ?_⟩) (by assumption) ?_
  rotate_left
  · intro w1 hSw; (try dsimp only at hSw); (try simp only [List.getElem_toArray, List.getElem_cons_zero, List.getElem_cons_succ]); go_simp; try with_reducible rfl
  try simp only [List.getElem_toArray, List.getElem_cons_zero, List.getElem_cons_succ, Act.put, List.setIfInBounds_toArray, List.set_cons_zero, List.set_cons_succ]
  refine wpAnyH_take (i := 24) (v := ?_) rfl (by decide +kernel) (by decide +kernel) (by decide +kernel) (fun _ _ _ h => h) (Or.inl ⟨by rfl, ?_⟩) (by assumption) ?_
  rotate_left
  · intro w1 hSw; (try dsimp only at hSw); (try simp only [List.getElem_toArray, List.getElem_cons_zero, List.getElem_cons_succ]); go_simp; try with_reducible rfl
  try simp only [List.getElem_toArray, List.getElem_cons_zero, List.getElem_cons_succ, Act.put, List.setIfInBounds_toArray, List.set_cons_zero, List.set_cons_succ]
  refine wpAnyH_ready (rs := [22]) (by decide +kernel) (by simp) ?_
  refine AllReadyH.cons rfl (fun K hK => ?_) AllReadyH.nil
  (try simp only [List.getElem_toArray, List.getElem_cons_zero, List.getElem_cons_succ])
  go_simp
  refine (cn.out _).mono ?_
  rintro e wr ⟨rfl, hbr⟩
  have hb2 := Lib.hid (hb.out.trans (hbr.mono hs))
  clear hb hs
  have hb := hb2
  clear hb2
  have hs := hb.out.size
  have gg := Lib.hid (isN_of hbr gx.out)
  clear gx
  have gx := gg
  clear gg
  have gg := Lib.hid (isN_of hbr gy.out)
  clear gy
  have gy := gg
  clear gg
  have gg := Lib.hid (isN_of hbr gd.out)
  clear gd
  have gd := gg
  clear gg
  clear hH hbr cx0 cx1 cx2 cy0 cy1 cy2 cd0 cd1 cd2
  obtain ⟨cx0, cx1, cx2⟩ := gx.out.all
  obtain ⟨cy0, cy1, cy2⟩ := gy.out.all
  obtain ⟨cd0, cd1, cd2⟩ := gd.out.all
  dsimp only at cx0 cx1 cx2 cy0 cy1 cy2 cd0 cd1 cd2
  go_simp
  refine hK.out _ _ (by go_keep) (fun hH => ?_)
  clear hK K
  try simp only [List.getElem_toArray, List.getElem_cons_zero, List.getElem_cons_succ, Act.put, List.setIfInBounds_toArray, List.set_cons_zero, List.set_cons_succ]
  refine wpAnyH_ready (rs := [23]) (by decide +kernel) (by simp) ?_
  refine AllReadyH.cons rfl (fun K hK => ?_) AllReadyH.nil
  (try simp only [List.getElem_toArray, List.getElem_cons_zero, List.getElem_cons_succ])
  go_simp
  refine (cm.out _).mono ?_
  rintro e wr ⟨rfl, hbr⟩
  have hb2 := Lib.hid (hb.out.trans (hbr.mono hs))
  clear hb hs
  have hb := hb2
  clear hb2
  have hs := hb.out.size
  have gg := Lib.hid (isN_of hbr gx.out)
  clear gx
  have gx := gg
  clear gg
  have gg := Lib.hid (isN_of hbr gy.out)
  clear gy
  have gy := gg
  clear gg
  have gg := Lib.hid (isN_of hbr gd.out)
  clear gd
  have gd := gg
  clear gg
  clear hH hbr cx0 cx1 cx2 cy0 cy1 cy2 cd0 cd1 cd2
  obtain ⟨cx0, cx1, cx2⟩ := gx.out.all
  obtain ⟨cy0, cy1, cy2⟩ := gy.out.all
  obtain ⟨cd0, cd1, cd2⟩ := gd.out.all
  dsimp only at cx0 cx1 cx2 cy0 cy1 cy2 cd0 cd1 cd2
  go_simp
  refine hK.out _ _ (by go_keep) (fun hH => ?_)
  clear hK K
  try simp only [List.getElem_toArray, List.getElem_cons_zero, List.getElem_cons_succ, Act.put, List.setIfInBounds_toArray, List.set_cons_zero, List.set_cons_succ]
  refine wpAnyH_take (i := 25) (v := ?_) rfl (by decide +kernel) (by decide +kernel) (by decide +kernel) (fun _ _ _ h => h) (Or.inl ⟨by rfl, ?_⟩) (by assumption) ?_
  rotate_left
  · intro w1 hSw; (try dsimp only at hSw); (try simp only [List.getElem_toArray, List.getElem_cons_zero, List.getElem_cons_succ]); go_simp; try with_reducible rfl
  try simp only [List.getElem_toArray, List.getElem_cons_zero, List.getElem_cons_succ, Act.put, List.setIfInBounds_toArray, List.set_cons_zero, List.set_cons_succ]
  refine wpAnyH_take (i := 26) (v := ?_) rfl (by decide +kernel) (by decide +kernel) (by decide +kernel) (fun _ _ _ h => h) (Or.inl ⟨by rfl, ?_⟩) (by assumption) ?_
  rotate_left
  · intro w1 hSw; (try dsimp only at hSw); (try simp only [List.getElem_toArray, List.getElem_cons_zero, List.getElem_cons_succ]); go_simp; try with_reducible rfl
  try simp only [List.getElem_toArray, List.getElem_cons_zero, List.getElem_cons_succ, Act.put, List.setIfInBounds_toArray, List.set_cons_zero, List.set_cons_succ]
  refine wpAnyH_take (i := 27) (v := ?_) rfl (by decide +kernel) (by decide +kernel) (by decide +kernel) (fun _ _ _ h => h) (Or.inl ⟨by rfl, ?_⟩) (by assumption) ?_
  rotate_left
  · intro w1 hSw; (try dsimp only at hSw); (try simp only [List.getElem_toArray, List.getElem_cons_zero, List.getElem_cons_succ]); go_simp; try with_reducible rfl
  try simp only [List.getElem_toArray, List.getElem_cons_zero, List.getElem_cons_succ, Act.put, List.setIfInBounds_toArray, List.set_cons_zero, List.set_cons_succ]
  refine wpAnyH_done (by decide +kernel) ?_ _
  clear hH
  go_wp2_with fail
  go_ret
  exact ⟨rfl, hb.out⟩

set_option maxRecDepth 10000 in
set_option maxHeartbeats 8000000 in
theorem wideBack_other2_over (x : WI) (ho : x.Ok) (hf : x.form = true) (y : WI) (hp : y.Ok) (hg : y.form = true) (h1 : x.n = y.n) (h2 : x.h = y.h) (hd : ¬ x.l = y.l) (f0 : (subF x y).2 = 3) (w : World) :
    Calls Tryd.prog 8 #[wv x, wv y] w fun e w' => e = .returned (.bool true) ∧ Below w.heap.size w w' := by
  have tl : ∀ v : WI, v.Ok → v.form = true → (text (textF v)).size ≤ maxLen := by
    intro v hv hfv
    obtain ⟨s, hs, ev, _⟩ := words v hv hfv
    rw [text_size]
    unfold textF
    rw [if_pos hfv, List.length_append]
    have hz : v.sz < 170141183460469231731687303715884105728 := (sz_bd hv hfv).2
    have h1 := digs_len 38 v.sz.toNat (Nat.lt_trans (by omega : v.sz.toNat < 170141183460469231731687303715884105728) (by decide))
    have h2 : (if v.n = true then [45] else ([] : List UInt8)).length ≤ 1 := by split <;> decide
    unfold maxLen
    omega
  have cf := form_c x ho
  rw [hf] at cf
  have ctx := text_c x ho
  have cpx := parse_c (text (textF x)) (tl x ho hf)
  rw [byts_text, text_form x ho hf] at cpx
  have cn := neg_c x ho
  have cm := neg_c (negF x) (negF_ok x ho)
  rw [negneg ho hf] at cm
  have cw := awake_c
  have cg := form_c y hp
  rw [hg] at cg
  have cty := text_c y hp
  have cs := sub_c x y ho hp
  have cxy := cmp_c x y ho hp
  have cyx := cmp_c y x hp ho
  have cd := sign_c (subF x y).1 (subF_ok x y)
  have hbk := back_law hf hg
  have hTT : (text (textF x)).toList = (text (textF y)).toList ↔ x = y := by rw [toList_text, toList_text]; exact text_inj ho hp hf hg
  have hcb : -1 ≤ cmpF y x ∧ cmpF y x ≤ 1 := by unfold cmpF; split <;> (try unfold sgn) <;> (try split) <;> (try split) <;> omega
  clear tl
  generalize text (textF x) = TX at *
  generalize text (textF y) = TY at *
  generalize subF x y = D at *
  generalize cmpF x y = c at *
  generalize cmpF y x = c' at *
  have hTf : (TX.toList == TY.toList) = false := beq_eq_false_iff_ne.2 (fun h => hd (by rw [hTT.1 h]))
  clear hTT hg hp
  subst hbk
  have hw : IntKind.i64.wrap (-c') = -c' := by simp [IntKind.wrap, IntKind.bits, IntKind.signed]; omega
  generalize signF D.1 = sd at *
  generalize negF x = N at *
  clear ho hf
  obtain ⟨⟨Dn, Dh, Dl⟩, De⟩ := D
  obtain ⟨Nn, Nh, Nl⟩ := N
  obtain ⟨xn, xh, xl⟩ := x
  obtain ⟨yn, yh, yl⟩ := y
  dsimp only at hd h1 h2
  subst h1
  subst h2
  have hdb : (xl == yl) = false := by simpa using hd
  unfold wv at *
  dsimp only at *
  subst f0
  replace cf := Lib.hid cf
  replace ctx := Lib.hid ctx
  replace cpx := Lib.hid cpx
  replace cn := Lib.hid cn
  replace cm := Lib.hid cm
  replace cw := Lib.hid cw
  replace cs := Lib.hid cs
  replace cxy := Lib.hid cxy
  replace cd := Lib.hid cd
  replace cg := Lib.hid cg
  replace cty := Lib.hid cty
  replace cyx := Lib.hid cyx
  go_enter Tryd.func8, Tryd.ntmps8
  go_wp2_with fail
  refine (cw.out _).mono ?_
  rintro e w1 ⟨rfl, hb1⟩
  obtain ⟨gx, gy, hb⟩ := two_new (x := ⟨xn, xh, xl⟩) (y := ⟨xn, xh, yl⟩) hb1
  have hs := hb.size
  clear hb1
  replace gx := Lib.hid gx
  replace gy := Lib.hid gy
  replace hb := Lib.hid hb
  obtain ⟨cx0, cx1, cx2⟩ := gx.out.all
  dsimp only at cx0 cx1 cx2
  go_wp2_with fail
  refine (cf.out _).mono ?_
  rintro e w2 ⟨rfl, hb2⟩
  replace gx := Lib.hid (isN_of hb2 gx.out)
  replace gy := Lib.hid (isN_of hb2 gy.out)
  replace hb := Lib.hid (hb.out.trans (hb2.mono hs))
  clear hs hb2
  have hs := hb.out.size
  clear cx0 cx1 cx2
  obtain ⟨cy0, cy1, cy2⟩ := gy.out.all
  dsimp only at cy0 cy1 cy2
  go_wp2_with fail
  refine (cg.out _).mono ?_
  rintro e w3 ⟨rfl, hb3⟩
  replace gx := Lib.hid (isN_of hb3 gx.out)
  replace gy := Lib.hid (isN_of hb3 gy.out)
  replace hb := Lib.hid (hb.out.trans (hb3.mono hs))
  clear hs hb3
  have hs := hb.out.size
  clear cy0 cy1 cy2
  obtain ⟨cx0, cx1, cx2⟩ := gx.out.all
  dsimp only at cx0 cx1 cx2
  go_wp2_with fail
  refine (ctx.out _).mono ?_
  rintro e w4 ⟨rfl, hb4⟩
  replace gx := Lib.hid (isN_of hb4 gx.out)
  replace gy := Lib.hid (isN_of hb4 gy.out)
  replace hb := Lib.hid (hb.out.trans (hb4.mono hs))
  clear hs hb4
  have hs := hb.out.size
  clear cx0 cx1 cx2
  go_wp2_with fail
  refine (cpx.out _).mono ?_
  rintro e w5 ⟨rfl, hb5⟩
  replace gx := Lib.hid (isN_of hb5 gx.out)
  replace gy := Lib.hid (isN_of hb5 gy.out)
  replace hb := Lib.hid (hb.out.trans (hb5.mono hs))
  clear hs hb5
  have hs := hb.out.size
  replace gx := Lib.hid (gx.out.alloc (oN ⟨xn, xh, xl⟩))
  replace gy := Lib.hid (gy.out.alloc (oN ⟨xn, xh, xl⟩))
  have gz := Lib.hid (IsN.new w5 ⟨xn, xh, xl⟩)
  replace hb := Lib.hid (hb.out.alloc hs (oN ⟨xn, xh, xl⟩))
  clear hs
  have hs := hb.out.size
  replace hb := Lib.hid (below_drewed hb.out)
  clear hs
  have hs := hb.out.size
  obtain ⟨cx0, cx1, cx2⟩ := gx.out.all
  obtain ⟨cy0, cy1, cy2⟩ := gy.out.all
  obtain ⟨cz0, cz1, cz2⟩ := gz.out.all
  dsimp only at cx0 cx1 cx2 cy0 cy1 cy2 cz0 cz1 cz2
  have mk0 := Lib.hid trivial
  have mk1 := Lib.hid trivial
  go_wp2_with fail
  go_region_held3 (fun w1 => w1.cell? ⟨w.heap.size, 0, none⟩ = some (.bool xn) ∧ w1.cell? ⟨w.heap.size, 1, none⟩ = some (.int .u64 xh) ∧ w1.cell? ⟨w.heap.size, 2, none⟩ = some (.int .u64 xl) ∧ w1.cell? ⟨w.heap.size + 1, 0, none⟩ = some (.bool xn) ∧ w1.cell? ⟨w.heap.size + 1, 1, none⟩ = some (.int .u64 xh) ∧ w1.cell? ⟨w.heap.size + 1, 2, none⟩ = some (.int .u64 yl) ∧ w1.cell? ⟨w5.heap.size, 0, none⟩ = some (.bool xn) ∧ w1.cell? ⟨w5.heap.size, 1, none⟩ = some (.int .u64 xh) ∧ w1.cell? ⟨w5.heap.size, 2, none⟩ = some (.int .u64 xl)) (go_keep)
    (first
      | (go_at_call 16
         clear mk0
         refine (ctx.out _).mono ?_
         rintro e wr ⟨rfl, hbr⟩
         have hb2 := Lib.hid (hb.out.trans (hbr.mono hs))
         clear hb hs
         have hb := hb2
         clear hb2
         have hs := hb.out.size
         have gg := Lib.hid (isN_of hbr gx.out)
         clear gx
         have gx := gg
         clear gg
         have gg := Lib.hid (isN_of hbr gy.out)
         clear gy
         have gy := gg
         clear gg
         have gg := Lib.hid (isN_of hbr gz.out)
         clear gz
         have gz := gg
         clear gg
         clear hbr cx0 cx1 cx2 cy0 cy1 cy2 cz0 cz1 cz2
         obtain ⟨cx0, cx1, cx2⟩ := gx.out.all
         obtain ⟨cy0, cy1, cy2⟩ := gy.out.all
         obtain ⟨cz0, cz1, cz2⟩ := gz.out.all
         dsimp only at cx0 cx1 cx2 cy0 cy1 cy2 cz0 cz1 cz2)
      | (go_at_call 16
         clear mk1
         refine (cty.out _).mono ?_
         rintro e wr ⟨rfl, hbr⟩
         have hb2 := Lib.hid (hb.out.trans (hbr.mono hs))
         clear hb hs
         have hb := hb2
         clear hb2
         have hs := hb.out.size
         have gg := Lib.hid (isN_of hbr gx.out)
         clear gx
         have gx := gg
         clear gg
         have gg := Lib.hid (isN_of hbr gy.out)
         clear gy
         have gy := gg
         clear gg
         have gg := Lib.hid (isN_of hbr gz.out)
         clear gz
         have gz := gg
         clear gg
         clear hbr cx0 cx1 cx2 cy0 cy1 cy2 cz0 cz1 cz2
         obtain ⟨cx0, cx1, cx2⟩ := gx.out.all
         obtain ⟨cy0, cy1, cy2⟩ := gy.out.all
         obtain ⟨cz0, cz1, cz2⟩ := gz.out.all
         dsimp only at cx0 cx1 cx2 cy0 cy1 cy2 cz0 cz1 cz2))
  skip
  clear cx0 cx1 cx2 cy0 cy1 cy2 cz0 cz1 cz2
  obtain ⟨cx0, cx1, cx2⟩ := gx.out.all
  obtain ⟨cy0, cy1, cy2⟩ := gy.out.all
  dsimp only at cx0 cx1 cx2 cy0 cy1 cy2
  go_wp2_with fail
  refine (cs.out _).mono ?_
  rintro e w8 ⟨rfl, hb8⟩
  replace gx := Lib.hid (isN_of hb8 gx.out)
  replace gy := Lib.hid (isN_of hb8 gy.out)
  replace gz := Lib.hid (isN_of hb8 gz.out)
  replace hb := Lib.hid (hb.out.trans (hb8.mono hs))
  clear hs hb8
  have hs := hb.out.size
  replace gx := Lib.hid (gx.out.alloc (oN ⟨Dn, Dh, Dl⟩))
  replace gy := Lib.hid (gy.out.alloc (oN ⟨Dn, Dh, Dl⟩))
  replace gz := Lib.hid (gz.out.alloc (oN ⟨Dn, Dh, Dl⟩))
  have gd := Lib.hid (IsN.new w8 ⟨Dn, Dh, Dl⟩)
  replace hb := Lib.hid (hb.out.alloc hs (oN ⟨Dn, Dh, Dl⟩))
  clear hs
  have hs := hb.out.size
  replace hb := Lib.hid (below_drewed hb.out)
  clear hs
  have hs := hb.out.size
  clear cx0 cx1 cx2 cy0 cy1 cy2
  obtain ⟨cx0, cx1, cx2⟩ := gx.out.all
  obtain ⟨cy0, cy1, cy2⟩ := gy.out.all
  obtain ⟨cd0, cd1, cd2⟩ := gd.out.all
  dsimp only at cx0 cx1 cx2 cy0 cy1 cy2 cd0 cd1 cd2
  go_wp2_with fail
  refine wp_region_held_at (S := fun w1 => w1.cell? ⟨w.heap.size, 0, none⟩ = some (.bool xn) ∧ w1.cell? ⟨w.heap.size, 1, none⟩ = some (.int .u64 xh) ∧ w1.cell? ⟨w.heap.size, 2, none⟩ = some (.int .u64 xl) ∧ w1.cell? ⟨w.heap.size + 1, 0, none⟩ = some (.bool xn) ∧ w1.cell? ⟨w.heap.size + 1, 1, none⟩ = some (.int .u64 xh) ∧ w1.cell? ⟨w.heap.size + 1, 2, none⟩ = some (.int .u64 yl) ∧ w1.cell? ⟨w8.heap.size, 0, none⟩ = some (.bool Dn) ∧ w1.cell? ⟨w8.heap.size, 1, none⟩ = some (.int .u64 Dh) ∧ w1.cell? ⟨w8.heap.size, 2, none⟩ = some (.int .u64 Dl)) 28 rfl (by kernel_rfl) (by go_keep) (fun hH => ?_)
  refine wpAnyH_take (i := 0) (v := ?_) rfl (by decide +kernel) (by decide +kernel) (by decide +kernel) (fun _ _ _ h => h) (Or.inl ⟨by rfl, ?_⟩) (by assumption) ?_
  rotate_left
  · intro w1 hSw; (try dsimp only at hSw); (try simp only [List.getElem_toArray, List.getElem_cons_zero]); go_simp; try with_reducible rfl
  try simp only [List.getElem_toArray, List.getElem_cons_zero, Act.put, List.setIfInBounds_toArray, List.set_cons_zero, List.set_cons_succ]
  refine wpAnyH_take (i := 1) (v := ?_) rfl (by decide +kernel) (by decide +kernel) (by decide +kernel) (fun _ _ _ h => h) (Or.inl ⟨by rfl, ?_⟩) (by assumption) ?_
  rotate_left
  · intro w1 hSw; (try dsimp only at hSw); (try simp only [List.getElem_toArray, List.getElem_cons_zero, List.getElem_cons_succ]); go_simp; try with_reducible rfl
  try simp only [List.getElem_toArray, List.getElem_cons_zero, List.getElem_cons_succ, Act.put, List.setIfInBounds_toArray, List.set_cons_zero, List.set_cons_succ]
  refine wpAnyH_take (i := 3) (v := ?_) rfl (by decide +kernel) (by decide +kernel) (by decide +kernel) (fun _ _ _ h => h) (Or.inl ⟨by rfl, ?_⟩) (by assumption) ?_
  rotate_left
  · intro w1 hSw; (try dsimp only at hSw); (try simp only [List.getElem_toArray, List.getElem_cons_zero, List.getElem_cons_succ]); go_simp; try with_reducible rfl
  try simp only [List.getElem_toArray, List.getElem_cons_zero, List.getElem_cons_succ, Act.put, List.setIfInBounds_toArray, List.set_cons_zero, List.set_cons_succ]
  refine wpAnyH_take (i := 4) (v := ?_) rfl (by decide +kernel) (by decide +kernel) (by decide +kernel) (fun _ _ _ h => h) (Or.inl ⟨by rfl, ?_⟩) (by assumption) ?_
  rotate_left
  · intro w1 hSw; (try dsimp only at hSw); (try simp only [List.getElem_toArray, List.getElem_cons_zero, List.getElem_cons_succ]); go_simp; try with_reducible rfl
  try simp only [List.getElem_toArray, List.getElem_cons_zero, List.getElem_cons_succ, Act.put, List.setIfInBounds_toArray, List.set_cons_zero, List.set_cons_succ]
  refine wpAnyH_ready (rs := [2]) (by decide +kernel) (by simp) ?_
  refine AllReadyH.cons rfl (fun K hK => ?_) AllReadyH.nil
  (try simp only [List.getElem_toArray, List.getElem_cons_zero, List.getElem_cons_succ])
  go_simp
  refine (cxy.out _).mono ?_
  rintro e wr ⟨rfl, hbr⟩
  have hb2 := Lib.hid (hb.out.trans (hbr.mono hs))
  clear hb hs
  have hb := hb2
  clear hb2
  have hs := hb.out.size
  have gg := Lib.hid (isN_of hbr gx.out)
  clear gx
  have gx := gg
  clear gg
  have gg := Lib.hid (isN_of hbr gy.out)
  clear gy
  have gy := gg
  clear gg
  have gg := Lib.hid (isN_of hbr gd.out)
  clear gd
  have gd := gg
  clear gg
  clear hH hbr cx0 cx1 cx2 cy0 cy1 cy2 cd0 cd1 cd2
  obtain ⟨cx0, cx1, cx2⟩ := gx.out.all
  obtain ⟨cy0, cy1, cy2⟩ := gy.out.all
  obtain ⟨cd0, cd1, cd2⟩ := gd.out.all
  dsimp only at cx0 cx1 cx2 cy0 cy1 cy2 cd0 cd1 cd2
  go_simp
  refine hK.out _ _ (by go_keep) (fun hH => ?_)
  clear hK K
  try simp only [List.getElem_toArray, List.getElem_cons_zero, List.getElem_cons_succ, Act.put, List.setIfInBounds_toArray, List.set_cons_zero, List.set_cons_succ]
  refine wpAnyH_ready (rs := [5]) (by decide +kernel) (by simp) ?_
  refine AllReadyH.cons rfl (fun K hK => ?_) AllReadyH.nil
  (try simp only [List.getElem_toArray, List.getElem_cons_zero, List.getElem_cons_succ])
  go_simp
  refine (cyx.out _).mono ?_
  rintro e wr ⟨rfl, hbr⟩
  have hb2 := Lib.hid (hb.out.trans (hbr.mono hs))
  clear hb hs
  have hb := hb2
  clear hb2
  have hs := hb.out.size
  have gg := Lib.hid (isN_of hbr gx.out)
  clear gx
  have gx := gg
  clear gg
  have gg := Lib.hid (isN_of hbr gy.out)
  clear gy
  have gy := gg
  clear gg
  have gg := Lib.hid (isN_of hbr gd.out)
  clear gd
  have gd := gg
  clear gg
  clear hH hbr cx0 cx1 cx2 cy0 cy1 cy2 cd0 cd1 cd2
  obtain ⟨cx0, cx1, cx2⟩ := gx.out.all
  obtain ⟨cy0, cy1, cy2⟩ := gy.out.all
  obtain ⟨cd0, cd1, cd2⟩ := gd.out.all
  dsimp only at cx0 cx1 cx2 cy0 cy1 cy2 cd0 cd1 cd2
  go_simp
  refine hK.out _ _ (by go_keep) (fun hH => ?_)
  clear hK K
  try simp only [List.getElem_toArray, List.getElem_cons_zero, List.getElem_cons_succ, Act.put, List.setIfInBounds_toArray, List.set_cons_zero, List.set_cons_succ]
  refine wpAnyH_take (i := 6) (v := ?_) rfl (by decide +kernel) (by decide +kernel) (by decide +kernel) (fun _ _ _ h => h) (Or.inl ⟨by rfl, ?_⟩) (by assumption) ?_
  rotate_left
  · intro w1 hSw; (try dsimp only at hSw); (try simp only [List.getElem_toArray, List.getElem_cons_zero, List.getElem_cons_succ]); go_simp; try with_reducible rfl
  try simp only [List.getElem_toArray, List.getElem_cons_zero, List.getElem_cons_succ, Act.put, List.setIfInBounds_toArray, List.set_cons_zero, List.set_cons_succ]
  refine wpAnyH_take (i := 7) (v := ?_) rfl (by decide +kernel) (by decide +kernel) (by decide +kernel) (fun _ _ _ h => h) (Or.inl ⟨by rfl, ?_⟩) (by assumption) ?_
  rotate_left
  · intro w1 hSw; (try dsimp only at hSw); (try simp only [List.getElem_toArray, List.getElem_cons_zero, List.getElem_cons_succ]); go_simp; try with_reducible rfl
  try simp only [List.getElem_toArray, List.getElem_cons_zero, List.getElem_cons_succ, Act.put, List.setIfInBounds_toArray, List.set_cons_zero, List.set_cons_succ]
  refine wpAnyH_take (i := 8) (v := ?_) rfl (by decide +kernel) (by decide +kernel) (by decide +kernel) (fun _ _ _ h => h) (Or.inl ⟨by rfl, ?_⟩) (by assumption) ?_
  rotate_left
  · intro w1 hSw; (try dsimp only at hSw); (try simp only [List.getElem_toArray, List.getElem_cons_zero, List.getElem_cons_succ]); go_simp; try with_reducible rfl
  try simp only [List.getElem_toArray, List.getElem_cons_zero, List.getElem_cons_succ, Act.put, List.setIfInBounds_toArray, List.set_cons_zero, List.set_cons_succ]
  refine wpAnyH_take (i := 9) (v := ?_) rfl (by decide +kernel) (by decide +kernel) (by decide +kernel) (fun _ _ _ h => h) (Or.inl ⟨by rfl, ?_⟩) (by assumption) ?_
  rotate_left
  · intro w1 hSw; (try dsimp only at hSw); (try simp only [List.getElem_toArray, List.getElem_cons_zero, List.getElem_cons_succ]); go_simp; try with_reducible rfl
  try simp only [List.getElem_toArray, List.getElem_cons_zero, List.getElem_cons_succ, Act.put, List.setIfInBounds_toArray, List.set_cons_zero, List.set_cons_succ]
  refine wpAnyH_take (i := 10) (v := ?_) rfl (by decide +kernel) (by decide +kernel) (by decide +kernel) (fun _ _ _ h => h) (Or.inl ⟨by rfl, ?_⟩) (by assumption) ?_
  rotate_left
  · intro w1 hSw; (try dsimp only at hSw); (try simp only [List.getElem_toArray, List.getElem_cons_zero, List.getElem_cons_succ]); go_simp; try with_reducible rfl
  try simp only [List.getElem_toArray, List.getElem_cons_zero, List.getElem_cons_succ, Act.put, List.setIfInBounds_toArray, List.set_cons_zero, List.set_cons_succ]
  refine wpAnyH_take (i := 11) (v := ?_) rfl (by decide +kernel) (by decide +kernel) (by decide +kernel) (fun _ _ _ h => h) (Or.inl ⟨by rfl, ?_⟩) (by assumption) ?_
  rotate_left
  · intro w1 hSw; (try dsimp only at hSw); (try simp only [List.getElem_toArray, List.getElem_cons_zero, List.getElem_cons_succ]); go_simp; try with_reducible rfl
  try simp only [List.getElem_toArray, List.getElem_cons_zero, List.getElem_cons_succ, Act.put, List.setIfInBounds_toArray, List.set_cons_zero, List.set_cons_succ]
  refine wpAnyH_take (i := 12) (v := undef) rfl (by decide +kernel) (by decide +kernel) (by decide +kernel) (fun _ _ _ h => h) (Or.inr ⟨by rfl, rfl⟩) (by assumption) ?_
  try simp only [List.getElem_toArray, List.getElem_cons_zero, List.getElem_cons_succ, Act.put, List.setIfInBounds_toArray, List.set_cons_zero, List.set_cons_succ]
  refine wpAnyH_take (i := 13) (v := undef) rfl (by decide +kernel) (by decide +kernel) (by decide +kernel) (fun _ _ _ h => h) (Or.inr ⟨by rfl, rfl⟩) (by assumption) ?_
  try simp only [List.getElem_toArray, List.getElem_cons_zero, List.getElem_cons_succ, Act.put, List.setIfInBounds_toArray, List.set_cons_zero, List.set_cons_succ]
  refine wpAnyH_take (i := 14) (v := undef) rfl (by decide +kernel) (by decide +kernel) (by decide +kernel) (fun _ _ _ h => h) (Or.inr ⟨by rfl, rfl⟩) (by assumption) ?_
  try simp only [List.getElem_toArray, List.getElem_cons_zero, List.getElem_cons_succ, Act.put, List.setIfInBounds_toArray, List.set_cons_zero, List.set_cons_succ]
  refine wpAnyH_take (i := 15) (v := undef) rfl (by decide +kernel) (by decide +kernel) (by decide +kernel) (fun _ _ _ h => h) (Or.inr ⟨by rfl, rfl⟩) (by assumption) ?_
  try simp only [List.getElem_toArray, List.getElem_cons_zero, List.getElem_cons_succ, Act.put, List.setIfInBounds_toArray, List.set_cons_zero, List.set_cons_succ]
  refine wpAnyH_take (i := 16) (v := undef) rfl (by decide +kernel) (by decide +kernel) (by decide +kernel) (fun _ _ _ h => h) (Or.inr ⟨by rfl, rfl⟩) (by assumption) ?_
  try simp only [List.getElem_toArray, List.getElem_cons_zero, List.getElem_cons_succ, Act.put, List.setIfInBounds_toArray, List.set_cons_zero, List.set_cons_succ]
  refine wpAnyH_take (i := 17) (v := undef) rfl (by decide +kernel) (by decide +kernel) (by decide +kernel) (fun _ _ _ h => h) (Or.inr ⟨by rfl, rfl⟩) (by assumption) ?_
  try simp only [List.getElem_toArray, List.getElem_cons_zero, List.getElem_cons_succ, Act.put, List.setIfInBounds_toArray, List.set_cons_zero, List.set_cons_succ]
  refine wpAnyH_take (i := 18) (v := ?_) rfl (by decide +kernel) (by decide +kernel) (by decide +kernel) (fun _ _ _ h => h) (Or.inl ⟨by rfl, ?_⟩) (by assumption) ?_
  rotate_left
  · intro w1 hSw; (try dsimp only at hSw); (try simp only [List.getElem_toArray, List.getElem_cons_zero, List.getElem_cons_succ]); go_simp; try with_reducible rfl
  try simp only [List.getElem_toArray, List.getElem_cons_zero, List.getElem_cons_succ, Act.put, List.setIfInBounds_toArray, List.set_cons_zero, List.set_cons_succ]
  refine wpAnyH_take (i := 19) (v := ?_) rfl (by decide +kernel) (by decide +kernel) (by decide +kernel) (fun _ _ _ h => h) (Or.inl ⟨by rfl, ?_⟩) (by assumption) ?_
  rotate_left
  · intro w1 hSw; (try dsimp only at hSw); (try simp only [List.getElem_toArray, List.getElem_cons_zero, List.getElem_cons_succ]); go_simp; try with_reducible rfl
  try simp only [List.getElem_toArray, List.getElem_cons_zero, List.getElem_cons_succ, Act.put, List.setIfInBounds_toArray, List.set_cons_zero, List.set_cons_succ]
  refine wpAnyH_take (i := 20) (v := ?_) rfl (by decide +kernel) (by decide +kernel) (by decide +kernel) (fun _ _ _ h => h) (Or.inl ⟨by rfl, ?_⟩) (by assumption) ?_
  rotate_left
  · intro w1 hSw; (try dsimp only at hSw); (try simp only [List.getElem_toArray, List.getElem_cons_zero, List.getElem_cons_succ]); go_simp; try with_reducible rfl
  try simp only [List.getElem_toArray, List.getElem_cons_zero, List.getElem_cons_succ, Act.put, List.setIfInBounds_toArray, List.set_cons_zero, List.set_cons_succ]
  refine wpAnyH_take (i := 21) (v := ?_) rfl (by decide +kernel) (by decide +kernel) (by decide +kernel) (fun _ _ _ h => h) (Or.inl ⟨by rfl, ?_⟩) (by assumption) ?_
  rotate_left
  · intro w1 hSw; (try dsimp only at hSw); (try simp only [List.getElem_toArray, List.getElem_cons_zero, List.getElem_cons_succ]); go_simp; try with_reducible rfl
  try simp only [List.getElem_toArray, List.getElem_cons_zero, List.getElem_cons_succ, Act.put, List.setIfInBounds_toArray, List.set_cons_zero, List.set_cons_succ]
  refine wpAnyH_take (i := 24) (v := ?_) rfl (by decide +kernel) (by decide +kernel) (by decide +kernel) (fun _ _ _ h => h) (Or.inl ⟨by rfl, ?_⟩) (by assumption) ?_
  rotate_left
  · intro w1 hSw; (try dsimp only at hSw); (try simp only [List.getElem_toArray, List.getElem_cons_zero, List.getElem_cons_succ]); go_simp; try with_reducible rfl
  try simp only [List.getElem_toArray, List.getElem_cons_zero, List.getElem_cons_succ, Act.put, List.setIfInBounds_toArray, List.set_cons_zero, List.set_cons_succ]
  refine wpAnyH_ready (rs := [22]) (by decide +kernel) (by simp) ?_
  refine AllReadyH.cons rfl (fun K hK => ?_) AllReadyH.nil
  (try simp only [List.getElem_toArray, List.getElem_cons_zero, List.getElem_cons_succ])
  go_simp
  refine (cn.out _).mono ?_
  rintro e wr ⟨rfl, hbr⟩
  have hb2 := Lib.hid (hb.out.trans (hbr.mono hs))
  clear hb hs
  have hb := hb2
  clear hb2
  have hs := hb.out.size
  have gg := Lib.hid (isN_of hbr gx.out)
  clear gx
  have gx := gg
  clear gg
  have gg := Lib.hid (isN_of hbr gy.out)
  clear gy
  have gy := gg
  clear gg
  have gg := Lib.hid (isN_of hbr gd.out)
  clear gd
  have gd := gg
  clear gg
  clear hH hbr cx0 cx1 cx2 cy0 cy1 cy2 cd0 cd1 cd2
  obtain ⟨cx0, cx1, cx2⟩ := gx.out.all
  obtain ⟨cy0, cy1, cy2⟩ := gy.out.all
  obtain ⟨cd0, cd1, cd2⟩ := gd.out.all
  dsimp only at cx0 cx1 cx2 cy0 cy1 cy2 cd0 cd1 cd2
  go_simp
  refine hK.out _ _ (by go_keep) (fun hH => ?_)
  clear hK K
  try simp only [List.getElem_toArray, List.getElem_cons_zero, List.getElem_cons_succ, Act.put, List.setIfInBounds_toArray, List.set_cons_zero, List.set_cons_succ]
  refine wpAnyH_ready (rs := [23]) (by decide +kernel) (by simp) ?_
  refine AllReadyH.cons rfl (fun K hK => ?_) AllReadyH.nil
  (try simp only [List.getElem_toArray, List.getElem_cons_zero, List.getElem_cons_succ])
  go_simp
  refine (cm.out _).mono ?_
  rintro e wr ⟨rfl, hbr⟩
  have hb2 := Lib.hid (hb.out.trans (hbr.mono hs))
  clear hb hs
  have hb := hb2
  clear hb2
  have hs := hb.out.size
  have gg := Lib.hid (isN_of hbr gx.out)
  clear gx
  have gx := gg
  clear gg
  have gg := Lib.hid (isN_of hbr gy.out)
  clear gy
  have gy := gg
  clear gg
  have gg := Lib.hid (isN_of hbr gd.out)
  clear gd
  have gd := gg
  clear gg
  clear hH hbr cx0 cx1 cx2 cy0 cy1 cy2 cd0 cd1 cd2
  obtain ⟨cx0, cx1, cx2⟩ := gx.out.all
  obtain ⟨cy0, cy1, cy2⟩ := gy.out.all
  obtain ⟨cd0, cd1, cd2⟩ := gd.out.all
  dsimp only at cx0 cx1 cx2 cy0 cy1 cy2 cd0 cd1 cd2
  go_simp
  refine hK.out _ _ (by go_keep) (fun hH => ?_)
  clear hK K
  try simp only [List.getElem_toArray, List.getElem_cons_zero, List.getElem_cons_succ, Act.put, List.setIfInBounds_toArray, List.set_cons_zero, List.set_cons_succ]
  refine wpAnyH_take (i := 25) (v := ?_) rfl (by decide +kernel) (by decide +kernel) (by decide +kernel) (fun _ _ _ h => h) (Or.inl ⟨by rfl, ?_⟩) (by assumption) ?_
  rotate_left
  · intro w1 hSw; (try dsimp only at hSw); (try simp only [List.getElem_toArray, List.getElem_cons_zero, List.getElem_cons_succ]); go_simp; try with_reducible rfl
  try simp only [List.getElem_toArray, List.getElem_cons_zero, List.getElem_cons_succ, Act.put, List.setIfInBounds_toArray, List.set_cons_zero, List.set_cons_succ]
  refine wpAnyH_take (i := 26) (v := ?_) rfl (by decide +kernel) (by decide +kernel) (by decide +kernel) (fun _ _ _ h => h) (Or.inl ⟨by rfl, ?_⟩) (by assumption) ?_
  rotate_left
  · intro w1 hSw; (try dsimp only at hSw); (try simp only [List.getElem_toArray, List.getElem_cons_zero, List.getElem_cons_succ]); go_simp; try with_reducible rfl
  try simp only [List.getElem_toArray, List.getElem_cons_zero, List.getElem_cons_succ, Act.put, List.setIfInBounds_toArray, List.set_cons_zero, List.set_cons_succ]
  refine wpAnyH_take (i := 27) (v := ?_) rfl (by decide +kernel) (by decide +kernel) (by decide +kernel) (fun _ _ _ h => h) (Or.inl ⟨by rfl, ?_⟩) (by assumption) ?_
  rotate_left
  · intro w1 hSw; (try dsimp only at hSw); (try simp only [List.getElem_toArray, List.getElem_cons_zero, List.getElem_cons_succ]); go_simp; try with_reducible rfl
  try simp only [List.getElem_toArray, List.getElem_cons_zero, List.getElem_cons_succ, Act.put, List.setIfInBounds_toArray, List.set_cons_zero, List.set_cons_succ]
  refine wpAnyH_done (by decide +kernel) ?_ _
  clear hH
  go_wp2_with fail
  go_ret
  exact ⟨rfl, hb.out⟩
end Go.Proofs.YtbfigpollacngaaDoor
