/- the walk over retrofitref01.Parse -/
import Derived.Test.YtbfigpollacngaaDoorNmT
import Derived.Test.YtbfigpollacngaaDoorWvG
import Derived.Deep.RegionHeld3
namespace Go.Proofs.YtbfigpollacngaaDoor
open Go.RowKit
open Rf
open Wide

set_option maxRecDepth 100000 in
set_option maxHeartbeats 32000000 in
theorem rp_fo (s : ByteArray) (hp : 0 < s.size) (hs : s.size ≤ 100) (hm : ((s[0].toNat : Int) == 45) = false) (T : ByteArray) (hT : s = T) (D : List UInt8) (hTD : byts T = D) (hDl : T.size = D.length) (hTp : 0 < T.size) (hz : ((T[0].toNat : Int) == 48) = true) (hz2 : (T.toList == [48]) = true) (P : WI × Int) (hT100 : T.size ≤ 100)
    (hbad : D.all isDig = false → P = (zero, 4)) (hlong : D.all isDig = true → 39 < D.length → P = (zero, 3)) (hover : D.all isDig = true → D.length ≤ 39 → ¬ valD D < 170141183460469231731687303715884105728 → P = (zero, 3))
    (hok : D.all isDig = true → D.length ≤ 39 → valD D < 170141183460469231731687303715884105728 → P = (⟨false, (nw (valD D)).h, (nw (valD D)).l⟩, 0)) : Ret 15 #[.string s] (.tuple #[wv P.1, .int .i64 P.2]) := fun w => by
  subst hT
  have gz0 : IsN (w.alloc (oN zero)) w.heap.size zero := IsN.new w zero
  have hb0 := below1 w (oN zero)
  have hpI : (0 : Int) < (s.size : Int) := by omega
  have hidx : ∀ (j : Nat) (h : j < s.size) (h' : j < D.length), (s[j].toNat : Int) = (D[j].toNat : Int) := by
    intro j h h'
    subst hTD
    simp [byts]
    rfl
  replace hbad := Lib.hid hbad
  replace hlong := Lib.hid hlong
  replace hover := Lib.hid hover
  replace hok := Lib.hid hok
  replace hidx := Lib.hid hidx
  replace hTD := Lib.hid hTD
  replace hDl := Lib.hid hDl
  replace gz0 := Lib.hid gz0
  replace hb0 := Lib.hid hb0
  go_enter Tryd.func15, Tryd.ntmps15
  go_upto_region 5 with fail
  have hne : ((s.size : Int) == 0) = false := beq_eq_false_iff_ne.2 (by omega)
  have hTpI : (0 : Int) < (s.size : Int) := by omega
  clear hm
  go_wp2_with fail
  go_loopw [6] (fun iv wr => ∃ i : Nat, i ≤ s.size ∧ iv = .int .i64 i ∧ (D.take i).all isDig = true ∧ IsN wr w.heap.size zero ∧ Below w.heap.size w wr) (fun i _ => s.size - (intOf i).toNat)
  case atStart => exact ⟨0, Nat.zero_le _, rfl, rfl, gz0.out, hb0.out⟩
  case round =>
    clear gz0 hb0 hz hz2 hne
    obtain ⟨i, hi, rfl, hpre, gz, hb⟩ := hrel
    by_cases hlt : i < s.size
    · have hltI : (i : Int) < (s.size : Int) := by omega
      have hiD : i < D.length := by have := hDl.out; omega
      have hstep : D.take (i + 1) = D.take i ++ [D[i]] := List.take_succ_eq_append_getElem hiD
      have hx := hidx.out i hlt hiD
      by_cases hlo : (s[i].toNat : Int) < 48
      · have hall : D.all isDig = false := by
          rw [List.all_eq_false]
          exact ⟨D[i], List.getElem_mem hiD, by unfold isDig; simp; omega⟩
        clear hstep hx hpre
        have hP := hbad.out hall
        obtain ⟨z0, z1, z2⟩ := gz.all
        have fz := gz.f
        obtain ⟨r0, r1, r2, hfin⟩ := last_set gz ⟨false, 0, 0⟩ hb (Nat.le_refl _)
        dsimp only [zero] at z0 z1 z2 r0 r1 r2 hfin
        replace hfin := Lib.hid hfin
        clear gz hb
        go_wp2_with fail
        (try simp only [Exit.inBlock, Exit.then])
        refine bodyPost_ret (by simp [results, Tryd.results15, go_sem, r0, r1, r2]; try rfl) rfl ?_
        exact ⟨by (try rw [hP]); rfl, hfin.out⟩
      · by_cases hhi : 57 < (s[i].toNat : Int)
        · have hall : D.all isDig = false := by
            rw [List.all_eq_false]
            exact ⟨D[i], List.getElem_mem hiD, by unfold isDig; simp; omega⟩
          clear hstep hx hpre
          have hP := hbad.out hall
          obtain ⟨z0, z1, z2⟩ := gz.all
          have fz := gz.f
          obtain ⟨r0, r1, r2, hfin⟩ := last_set gz ⟨false, 0, 0⟩ hb (Nat.le_refl _)
          dsimp only [zero] at z0 z1 z2 r0 r1 r2 hfin
          replace hfin := Lib.hid hfin
          clear gz hb
          go_wp2_with fail
          (try simp only [Exit.inBlock, Exit.then])
          refine bodyPost_ret (by simp [results, Tryd.results15, go_sem, r0, r1, r2]; try rfl) rfl ?_
          exact ⟨by (try rw [hP]); rfl, hfin.out⟩
        · have hnext : (D.take (i + 1)).all isDig = true := by
            rw [hstep, List.all_append, hpre]
            unfold isDig
            simp
            omega
          clear hstep hx hpre
          replace hnext := Lib.hid hnext
          replace gz := Lib.hid gz
          replace hb := Lib.hid hb
          go_wp2_with fail
          go_roundw
          case rel => exact ⟨i + 1, by omega, by go_num, hnext.out, gz.out, hb.out⟩
          case measure => simp [intOf]; omega
    · obtain rfl : i = s.size := by omega
      have hall : D.all isDig = true := by rwa [List.take_of_length_le (by have := hDl.out; omega)] at hpre
      clear hpre
      by_cases hL : 39 < s.size
      · have hP := hlong.out hall (by have := hDl.out; omega)
        obtain ⟨z0, z1, z2⟩ := gz.all
        have fz := gz.f
        obtain ⟨r0, r1, r2, hfin⟩ := last_set gz ⟨false, 0, 0⟩ hb (Nat.le_refl _)
        dsimp only [zero] at z0 z1 z2 r0 r1 r2 hfin
        replace hfin := Lib.hid hfin
        clear gz hb
        go_wp2_with fail
        (try simp only [Exit.inBlock, Exit.then])
        refine bodyPost_ret (by simp [results, Tryd.results15, go_sem, r0, r1, r2]; try rfl) rfl ?_
        exact ⟨by (try rw [hP]); rfl, hfin.out⟩
      · have hover' := hover.out hall (by have := hDl.out; omega)
        have hok' := hok.out hall (by have := hDl.out; omega)
        replace hover' := Lib.hid hover'
        replace hok' := Lib.hid hok'
        clear hbad hlong hover hok
        have q1 := gz.lt
        have gx0 : IsN (wr.alloc (oN zero)) wr.heap.size zero := IsN.new wr zero
        replace gz := Lib.hid (gz.alloc (oN zero))
        replace hb := Lib.hid (hb.alloc hb.size (oN zero))
        replace gx0 := Lib.hid gx0
        replace hall := Lib.hid hall
        go_wp2_with fail
        obtain ⟨wo, rfl⟩ : ∃ wo : World, wo = wr := ⟨_, rfl⟩
        go_loopw [8] (fun iv wi => ∃ j : Nat, j ≤ s.size ∧ iv = .int .i64 j ∧ valD (D.take j) < 170141183460469231731687303715884105728 ∧ IsN wi wo.heap.size (nw (valD (D.take j))) ∧ IsN wi w.heap.size zero ∧ Below w.heap.size w wi) (fun i _ => s.size - (intOf i).toNat)
        case atStart => exact ⟨0, Nat.zero_le _, rfl, by rw [show valD (D.take 0) = 0 from rfl]; decide, by rw [show valD (D.take 0) = 0 from rfl]; exact gx0.out, gz.out, hb.out⟩
        case round =>
          clear gx0 gz hb
          obtain ⟨j, hj, rfl, hv, gx, gz, hb⟩ := hrel
          by_cases hjn : j < s.size
          · have hjD : j < D.length := by have := hDl.out; omega
            have hnext := valD_next D j hjD
            have hmono := Lib.hid (valD_take D (j + 1))
            have hdig : isDig D[j] = true := List.all_eq_true.1 hall.out _ (List.getElem_mem hjD)
            have hK0 : 48 ≤ D[j].toNat ∧ D[j].toNat ≤ 57 := by unfold isDig at hdig; simpa using hdig
            have hx := hidx.out j hjn hjD
            obtain ⟨dg, hdg⟩ : ∃ dg : Nat, D[j].toNat - 48 = dg := ⟨_, rfl⟩
            obtain ⟨K, hK⟩ : ∃ K : Int, (s[j].toNat : Int) = K := ⟨_, rfl⟩
            have hwr : IntKind.u64.wrap (IntKind.u8.wrap (K - 48)) = (dg : Int) := by
              rw [show K - 48 = (dg : Int) by omega, IntWalk.u8_in _ (by omega)]
              exact IntWalk.u64_in _ (by omega)
            have hdg9 : dg ≤ 9 := by omega
            rw [hdg] at hnext
            clear hdig hK0 hx hdg
            generalize hve : valD (D.take j) = v at *
            clear hve
            have cM := refMul_c (nw v) (nw 10) (nw_ok (Nat.lt_trans hv (by decide))) (nw_ok (by decide))
            rw [mulN hv (by decide), show nw 10 = ⟨false, 0, 10⟩ from rfl] at cM
            replace hnext := Lib.hid hnext
            by_cases hm : v * 10 < 170141183460469231731687303715884105728
            · rw [show RN (v * 10) = (nw (v * 10), 0) from if_pos hm] at cM
              have cA := refAdd_c (nw (v * 10)) (nw dg) (nw_ok (Nat.lt_trans hm (by decide))) (nw_ok (by omega))
              rw [addN hm (by omega), ← ofWord_nw dg (by omega), ← hwr] at cA
              by_cases ha : v * 10 + dg < 170141183460469231731687303715884105728
              · rw [show RN (v * 10 + dg) = (nw (v * 10 + dg), 0) from if_pos ha] at cA
                rw [← hnext.out] at ha cA
                obtain ⟨Z, hZ⟩ : ∃ Z, nw (valD (D.take (j + 1))) = Z := ⟨_, rfl⟩
                rw [hZ] at cA
                replace hZ := Lib.hid hZ
                replace ha := Lib.hid ha
                generalize nw (v * 10) = Y at *
                generalize nw v = V at *
                clear hm hv hnext hwr
                obtain ⟨Yn, Yh, Yl⟩ := Y
                obtain ⟨Zn, Zh, Zl⟩ := Z
                obtain ⟨Vn, Vh, Vl⟩ := V
                obtain ⟨c0, c1, c2⟩ := gx.all
                (try unfold zero at cM cA)
                unfold wv at cM cA
                dsimp only at cM cA c0 c1 c2
                replace cM := Lib.hid cM
                replace cA := Lib.hid cA
                replace gx := Lib.hid gx
                replace gz := Lib.hid gz
                replace hb := Lib.hid hb
                go_wp2_with fail
                refine (cM.out.on _).mono ?_
                rintro e w5 ⟨rfl, hbr⟩
                clear c0 c1 c2
                have q5 := (gx.out.below hbr).lt
                have gy := Lib.hid (show IsN (w5.alloc (oN ⟨Yn, Yh, Yl⟩)) w5.heap.size ⟨Yn, Yh, Yl⟩ from IsN.new w5 ⟨Yn, Yh, Yl⟩)
                replace gx := Lib.hid ((gx.out.below hbr).alloc (oN ⟨Yn, Yh, Yl⟩))
                replace gz := Lib.hid ((gz.out.below hbr).alloc (oN ⟨Yn, Yh, Yl⟩))
                replace hb := Lib.hid (below_drewed ((below_up hb.out hb.out.size hbr).alloc (by have := hb.out.size; have := hbr.size; omega) (oN ⟨Yn, Yh, Yl⟩)))
                clear hbr
                have hs := hb.out.size
                obtain ⟨y0, y1, y2⟩ := gy.out.all
                dsimp only at y0 y1 y2
                go_wp2_with fail
                refine wp_region_held_at (S := fun w1 => w1.cell? ⟨w5.heap.size, 0, none⟩ = some (.bool Yn) ∧ w1.cell? ⟨w5.heap.size, 1, none⟩ = some (.int .u64 Yh) ∧ w1.cell? ⟨w5.heap.size, 2, none⟩ = some (.int .u64 Yl)) 14 rfl (by kernel_rfl) (by go_keep) (fun hH => ?_)
                refine wpAnyH_take (i := 0) (v := ?_) rfl (by decide +kernel) (by decide +kernel) (by decide +kernel) (fun _ _ _ h => h) (Or.inl ⟨by rfl, ?_⟩) (by assumption) ?_
                rotate_left
                · intro w1 hSw; (try dsimp only at hSw); (try simp only [List.getElem_toArray, List.getElem_cons_zero]); go_simp; try with_reducible rfl
                try simp only [List.getElem_toArray, List.getElem_cons_zero, Act.put, List.setIfInBounds_toArray, List.set_cons_zero, List.set_cons_succ]
                refine wpAnyH_take (i := 1) (v := ?_) rfl (by decide +kernel) (by decide +kernel) (by decide +kernel) (fun _ _ _ h => h) (Or.inl ⟨by rfl, ?_⟩) (by assumption) ?_
                rotate_left
                · intro w1 hSw; (try dsimp only at hSw); (try simp only [List.getElem_toArray, List.getElem_cons_zero, List.getElem_cons_succ]); go_simp; try with_reducible rfl
                try simp only [List.getElem_toArray, List.getElem_cons_zero, List.getElem_cons_succ, Act.put, List.setIfInBounds_toArray, List.set_cons_zero, List.set_cons_succ]
                refine wpAnyH_take (i := 2) (v := ?_) rfl (by decide +kernel) (by decide +kernel) (by decide +kernel) (fun _ _ _ h => h) (Or.inl ⟨by rfl, ?_⟩) (by assumption) ?_
                rotate_left
                · intro w1 hSw; (try dsimp only at hSw); (try simp only [List.getElem_toArray, List.getElem_cons_zero, List.getElem_cons_succ]); go_simp; try with_reducible rfl
                try simp only [List.getElem_toArray, List.getElem_cons_zero, List.getElem_cons_succ, Act.put, List.setIfInBounds_toArray, List.set_cons_zero, List.set_cons_succ]
                refine wpAnyH_take (i := 3) (v := ?_) rfl (by decide +kernel) (by decide +kernel) (by decide +kernel) (fun _ _ _ h => h) (Or.inl ⟨by rfl, ?_⟩) (by assumption) ?_
                rotate_left
                · intro w1 hSw; (try dsimp only at hSw); (try simp only [List.getElem_toArray, List.getElem_cons_zero, List.getElem_cons_succ]); go_simp; try with_reducible rfl
                try simp only [List.getElem_toArray, List.getElem_cons_zero, List.getElem_cons_succ, Act.put, List.setIfInBounds_toArray, List.set_cons_zero, List.set_cons_succ]
                refine wpAnyH_take (i := 4) (v := ?_) rfl (by decide +kernel) (by decide +kernel) (by decide +kernel) (fun _ _ _ h => h) (Or.inl ⟨by rfl, ?_⟩) (by assumption) ?_
                rotate_left
                · intro w1 hSw; (try dsimp only at hSw); (try simp only [List.getElem_toArray, List.getElem_cons_zero, List.getElem_cons_succ]); go_simp; try with_reducible rfl
                try simp only [List.getElem_toArray, List.getElem_cons_zero, List.getElem_cons_succ, Act.put, List.setIfInBounds_toArray, List.set_cons_zero, List.set_cons_succ]
                refine wpAnyH_take (i := 5) (v := ?_) rfl (by decide +kernel) (by decide +kernel) (by decide +kernel) (fun _ _ _ h => h) (Or.inl ⟨by rfl, ?_⟩) (by assumption) ?_
                rotate_left
                · intro w1 hSw; (try dsimp only at hSw); (try simp only [List.getElem_toArray, List.getElem_cons_zero, List.getElem_cons_succ]); go_simp; try with_reducible rfl
                try simp only [List.getElem_toArray, List.getElem_cons_zero, List.getElem_cons_succ, Act.put, List.setIfInBounds_toArray, List.set_cons_zero, List.set_cons_succ]
                refine wpAnyH_take (i := 6) (v := ?_) rfl (by decide +kernel) (by decide +kernel) (by decide +kernel) (fun _ _ _ h => h) (Or.inl ⟨by rfl, ?_⟩) (by assumption) ?_
                rotate_left
                · intro w1 hSw; (try dsimp only at hSw); (try simp only [List.getElem_toArray, List.getElem_cons_zero, List.getElem_cons_succ]); go_simp; try with_reducible rfl
                try simp only [List.getElem_toArray, List.getElem_cons_zero, List.getElem_cons_succ, Act.put, List.setIfInBounds_toArray, List.set_cons_zero, List.set_cons_succ]
                refine wpAnyH_ready (rs := [7, 11]) (by decide +kernel) (by simp) ?_
                refine AllReadyH.cons rfl (fun K hK => ?_) (AllReadyH.cons rfl (fun K hK => ?_) AllReadyH.nil)
                · (try simp only [List.getElem_toArray, List.getElem_cons_zero, List.getElem_cons_succ])
                  go_simp
                  refine (cA.out.on _).mono ?_
                  rintro e w6 ⟨rfl, hbr⟩
                  have gy2 := Lib.hid (isN_of hbr gy.out)
                  have gx2 := Lib.hid (isN_of hbr gx.out)
                  have gz2 := Lib.hid (isN_of hbr gz.out)
                  have hb2 := Lib.hid (below_up hb.out hb.out.size hbr)
                  clear hH hb hs hbr y0 y1 y2 gy gx gz
                  have hs := hb2.out.size
                  obtain ⟨y0, y1, y2⟩ := gy2.out.all
                  dsimp only at y0 y1 y2
                  go_simp
                  refine hK.out _ _ (by go_keep) (fun hH => ?_)
                  clear hK K
                  try simp only [List.getElem_toArray, List.getElem_cons_zero, List.getElem_cons_succ, Act.put, List.setIfInBounds_toArray, List.set_cons_zero, List.set_cons_succ]
                  refine wpAnyH_take (i := 8) (v := ?_) rfl (by decide +kernel) (by decide +kernel) (by decide +kernel) (fun _ _ _ h => h) (Or.inl ⟨by rfl, ?_⟩) (by assumption) ?_
                  rotate_left
                  · intro w1 hSw; (try dsimp only at hSw); (try simp only [List.getElem_toArray, List.getElem_cons_zero, List.getElem_cons_succ]); go_simp; try with_reducible rfl
                  try simp only [List.getElem_toArray, List.getElem_cons_zero, List.getElem_cons_succ, Act.put, List.setIfInBounds_toArray, List.set_cons_zero, List.set_cons_succ]
                  refine wpAnyH_take (i := 9) (v := ?_) rfl (by decide +kernel) (by decide +kernel) (by decide +kernel) (fun _ _ _ h => h) (Or.inl ⟨by rfl, ?_⟩) (by assumption) ?_
                  rotate_left
                  · intro w1 hSw; (try dsimp only at hSw); (try simp only [List.getElem_toArray, List.getElem_cons_zero, List.getElem_cons_succ]); go_simp; try with_reducible rfl
                  try simp only [List.getElem_toArray, List.getElem_cons_zero, List.getElem_cons_succ, Act.put, List.setIfInBounds_toArray, List.set_cons_zero, List.set_cons_succ]
                  refine wpAnyH_take (i := 10) (v := ?_) rfl (by decide +kernel) (by decide +kernel) (by decide +kernel) (fun _ _ _ h => h) (Or.inl ⟨by rfl, ?_⟩) (by assumption) ?_
                  rotate_left
                  · intro w1 hSw; (try dsimp only at hSw); (try simp only [List.getElem_toArray, List.getElem_cons_zero, List.getElem_cons_succ]); go_simp; try with_reducible rfl
                  try simp only [List.getElem_toArray, List.getElem_cons_zero, List.getElem_cons_succ, Act.put, List.setIfInBounds_toArray, List.set_cons_zero, List.set_cons_succ]
                  clear y0 y1 y2
                  have gt := Lib.hid (show IsN (w6.alloc (oN ⟨false, 0, 0⟩)) w6.heap.size ⟨false, 0, 0⟩ from IsN.new w6 ⟨false, 0, 0⟩)
                  obtain ⟨y0, y1, y2⟩ := (gy2.out.alloc (oN ⟨false, 0, 0⟩)).all
                  dsimp only at y0 y1 y2
                  refine wpAnyH_ready (rs := [11]) (by decide +kernel) (by simp) ?_
                  refine AllReadyH.cons rfl (fun K hK => ?_) AllReadyH.nil
                  (try simp only [List.getElem_toArray, List.getElem_cons_zero, List.getElem_cons_succ])
                  go_simp
                  clear hH
                  refine hK.out _ _ (by go_keep) (fun hH => ?_)
                  clear hK K
                  try simp only [List.getElem_toArray, List.getElem_cons_zero, List.getElem_cons_succ, Act.put, List.setIfInBounds_toArray, List.set_cons_zero, List.set_cons_succ]
                  clear y0 y1 y2
                  obtain ⟨y0, y1, y2⟩ := (gy2.out.alloc (oN ⟨Zn, Zh, Zl⟩)).all
                  dsimp only at y0 y1 y2
                  refine wpAnyH_ready (rs := [12]) (by decide +kernel) (by simp) ?_
                  refine AllReadyH.cons rfl (fun K hK => ?_) AllReadyH.nil
                  (try simp only [List.getElem_toArray, List.getElem_cons_zero, List.getElem_cons_succ])
                  go_simp
                  clear hH
                  refine hK.out _ _ (by go_keep) (fun hH => ?_)
                  clear hK K
                  try simp only [List.getElem_toArray, List.getElem_cons_zero, List.getElem_cons_succ, Act.put, List.setIfInBounds_toArray, List.set_cons_zero, List.set_cons_succ]
                  refine wpAnyH_take (i := 13) (v := ?_) rfl (by decide +kernel) (by decide +kernel) (by decide +kernel) (fun _ _ _ h => h) (Or.inl ⟨by rfl, ?_⟩) (by assumption) ?_
                  rotate_left
                  · intro w1 hSw; (try dsimp only at hSw); (try simp only [List.getElem_toArray, List.getElem_cons_zero, List.getElem_cons_succ]); go_simp; try with_reducible rfl
                  try simp only [List.getElem_toArray, List.getElem_cons_zero, List.getElem_cons_succ, Act.put, List.setIfInBounds_toArray, List.set_cons_zero, List.set_cons_succ]
                  refine wpAnyH_done (by decide +kernel) ?_ _
                  clear hH y0 y1 y2
                  have gt' := Lib.hid (show IsN (w6.alloc (oN ⟨Zn, Zh, Zl⟩)) w6.heap.size ⟨Zn, Zh, Zl⟩ from IsN.new w6 ⟨Zn, Zh, Zl⟩)
                  have gx := Lib.hid (gx2.out.alloc (oN ⟨Zn, Zh, Zl⟩))
                  have gz := Lib.hid (gz2.out.alloc (oN ⟨Zn, Zh, Zl⟩))
                  have hb := Lib.hid (hb2.out.alloc hs (oN ⟨Zn, Zh, Zl⟩))
                  clear gt gy2 gx2 gz2 hb2 hs
                  obtain ⟨t0, t1, t2⟩ := gt'.out.all
                  obtain ⟨c0, c1, c2⟩ := gx.out.all
                  have fx := gx.out.f
                  dsimp only at t0 t1 t2 c0 c1 c2
                  have gxF := Lib.hid (gx.out.set Zn Zh Zl)
                  have gzF := Lib.hid (gz.out.set3_other (c := wo.heap.size) (v0 := .bool Zn) (v1 := .int .u64 Zh) (v2 := .int .u64 Zl) (by omega))
                  have hbF := Lib.hid (below_set3 hb.out (show w.heap.size ≤ wo.heap.size by omega) (.bool Zn) (.int .u64 Zh) (.int .u64 Zl))
                  clear gt' gx gz hb
                  go_wp2_with fail
                  go_roundw
                  case rel => exact ⟨j + 1, by omega, by go_num, ha.out, by rw [hZ.out]; exact gxF.out, gzF.out, hbF.out⟩
                  case measure => simp [intOf]; omega
                · (try simp only [List.getElem_toArray, List.getElem_cons_zero, List.getElem_cons_succ])
                  have gt := Lib.hid (show IsN (((w5.alloc (oN ⟨Yn, Yh, Yl⟩)).drew).alloc (oN ⟨false, 0, 0⟩)) (w5.heap.size + 1) ⟨false, 0, 0⟩ from by have := IsN.new ((w5.alloc (oN ⟨Yn, Yh, Yl⟩)).drew) ⟨false, 0, 0⟩; rwa [show ((w5.alloc (oN ⟨Yn, Yh, Yl⟩)).drew).heap.size = w5.heap.size + 1 from size_alloc w5 _] at this)
                  have gy' := Lib.hid (IsN.alloc (w := (w5.alloc (oN ⟨Yn, Yh, Yl⟩)).drew) gy.out (oN ⟨false, 0, 0⟩))
                  have gx' := Lib.hid (IsN.alloc (w := (w5.alloc (oN ⟨Yn, Yh, Yl⟩)).drew) gx.out (oN ⟨false, 0, 0⟩))
                  have gz' := Lib.hid (IsN.alloc (w := (w5.alloc (oN ⟨Yn, Yh, Yl⟩)).drew) gz.out (oN ⟨false, 0, 0⟩))
                  have hb' := Lib.hid (hb.out.alloc hs (oN ⟨false, 0, 0⟩))
                  clear y0 y1 y2 hb hs gy gx gz
                  have gy := gy'
                  have gx := gx'
                  have gz := gz'
                  have hb := hb'
                  clear gy' gx' gz' hb'
                  have hs := hb.out.size
                  obtain ⟨y0, y1, y2⟩ := gy.out.all
                  dsimp only at y0 y1 y2
                  go_simp
                  refine hK.out _ _ (by go_keep) (fun hH => ?_)
                  clear hK K
                  try simp only [List.getElem_toArray, List.getElem_cons_zero, List.getElem_cons_succ, Act.put, List.setIfInBounds_toArray, List.set_cons_zero, List.set_cons_succ]
                  refine wpAnyH_ready (rs := [7]) (by decide +kernel) (by simp) ?_
                  refine AllReadyH.cons rfl (fun K hK => ?_) AllReadyH.nil
                  (try simp only [List.getElem_toArray, List.getElem_cons_zero, List.getElem_cons_succ])
                  go_simp
                  refine (cA.out.on _).mono ?_
                  rintro e w6 ⟨rfl, hbr⟩
                  have gy2 := Lib.hid (isN_of hbr gy.out)
                  have gx2 := Lib.hid (isN_of hbr gx.out)
                  have gz2 := Lib.hid (isN_of hbr gz.out)
                  have hb2 := Lib.hid (below_up hb.out hb.out.size hbr)
                  have gt2 := Lib.hid (isN_of hbr gt.out)
                  clear hH hb hs hbr y0 y1 y2 gy gx gz
                  have hs := hb2.out.size
                  obtain ⟨y0, y1, y2⟩ := gy2.out.all
                  dsimp only at y0 y1 y2
                  go_simp
                  clear gt
                  refine hK.out _ _ (by go_keep) (fun hH => ?_)
                  clear hK K
                  try simp only [List.getElem_toArray, List.getElem_cons_zero, List.getElem_cons_succ, Act.put, List.setIfInBounds_toArray, List.set_cons_zero, List.set_cons_succ]
                  refine wpAnyH_take (i := 8) (v := ?_) rfl (by decide +kernel) (by decide +kernel) (by decide +kernel) (fun _ _ _ h => h) (Or.inl ⟨by rfl, ?_⟩) (by assumption) ?_
                  rotate_left
                  · intro w1 hSw; (try dsimp only at hSw); (try simp only [List.getElem_toArray, List.getElem_cons_zero, List.getElem_cons_succ]); go_simp; try with_reducible rfl
                  try simp only [List.getElem_toArray, List.getElem_cons_zero, List.getElem_cons_succ, Act.put, List.setIfInBounds_toArray, List.set_cons_zero, List.set_cons_succ]
                  refine wpAnyH_take (i := 9) (v := ?_) rfl (by decide +kernel) (by decide +kernel) (by decide +kernel) (fun _ _ _ h => h) (Or.inl ⟨by rfl, ?_⟩) (by assumption) ?_
                  rotate_left
                  · intro w1 hSw; (try dsimp only at hSw); (try simp only [List.getElem_toArray, List.getElem_cons_zero, List.getElem_cons_succ]); go_simp; try with_reducible rfl
                  try simp only [List.getElem_toArray, List.getElem_cons_zero, List.getElem_cons_succ, Act.put, List.setIfInBounds_toArray, List.set_cons_zero, List.set_cons_succ]
                  refine wpAnyH_take (i := 10) (v := ?_) rfl (by decide +kernel) (by decide +kernel) (by decide +kernel) (fun _ _ _ h => h) (Or.inl ⟨by rfl, ?_⟩) (by assumption) ?_
                  rotate_left
                  · intro w1 hSw; (try dsimp only at hSw); (try simp only [List.getElem_toArray, List.getElem_cons_zero, List.getElem_cons_succ]); go_simp; try with_reducible rfl
                  try simp only [List.getElem_toArray, List.getElem_cons_zero, List.getElem_cons_succ, Act.put, List.setIfInBounds_toArray, List.set_cons_zero, List.set_cons_succ]
                  obtain ⟨t0, t1, t2⟩ := gt2.out.all
                  have ft := gt2.out.f
                  dsimp only at t0 t1 t2
                  clear y0 y1 y2
                  obtain ⟨y0, y1, y2⟩ := (gy2.out.set3_other (c := w5.heap.size + 1) (v0 := .bool Zn) (v1 := .int .u64 Zh) (v2 := .int .u64 Zl) (by omega)).all
                  dsimp only at y0 y1 y2
                  refine wpAnyH_ready (rs := [12]) (by decide +kernel) (by simp) ?_
                  refine AllReadyH.cons rfl (fun K hK => ?_) AllReadyH.nil
                  (try simp only [List.getElem_toArray, List.getElem_cons_zero, List.getElem_cons_succ])
                  go_simp
                  clear hH
                  refine hK.out _ _ (by go_keep) (fun hH => ?_)
                  clear hK K
                  try simp only [List.getElem_toArray, List.getElem_cons_zero, List.getElem_cons_succ, Act.put, List.setIfInBounds_toArray, List.set_cons_zero, List.set_cons_succ]
                  refine wpAnyH_take (i := 13) (v := ?_) rfl (by decide +kernel) (by decide +kernel) (by decide +kernel) (fun _ _ _ h => h) (Or.inl ⟨by rfl, ?_⟩) (by assumption) ?_
                  rotate_left
                  · intro w1 hSw; (try dsimp only at hSw); (try simp only [List.getElem_toArray, List.getElem_cons_zero, List.getElem_cons_succ]); go_simp; try with_reducible rfl
                  try simp only [List.getElem_toArray, List.getElem_cons_zero, List.getElem_cons_succ, Act.put, List.setIfInBounds_toArray, List.set_cons_zero, List.set_cons_succ]
                  refine wpAnyH_done (by decide +kernel) ?_ _
                  clear hH y0 y1 y2 t0 t1 t2 ft
                  have gt' := Lib.hid (gt2.out.set Zn Zh Zl)
                  have gx := Lib.hid (gx2.out.set3_other (c := w5.heap.size + 1) (v0 := .bool Zn) (v1 := .int .u64 Zh) (v2 := .int .u64 Zl) (by omega))
                  have gz := Lib.hid (gz2.out.set3_other (c := w5.heap.size + 1) (v0 := .bool Zn) (v1 := .int .u64 Zh) (v2 := .int .u64 Zl) (by omega))
                  have hb := Lib.hid (below_set3 hb2.out (show w.heap.size ≤ w5.heap.size + 1 by omega) (.bool Zn) (.int .u64 Zh) (.int .u64 Zl))
                  clear gt2 gy2 gx2 gz2 hb2 hs
                  obtain ⟨t0, t1, t2⟩ := gt'.out.all
                  obtain ⟨c0, c1, c2⟩ := gx.out.all
                  have fx := gx.out.f
                  dsimp only at t0 t1 t2 c0 c1 c2
                  have gxF := Lib.hid (gx.out.set Zn Zh Zl)
                  have gzF := Lib.hid (gz.out.set3_other (c := wo.heap.size) (v0 := .bool Zn) (v1 := .int .u64 Zh) (v2 := .int .u64 Zl) (by omega))
                  have hbF := Lib.hid (below_set3 hb.out (show w.heap.size ≤ wo.heap.size by omega) (.bool Zn) (.int .u64 Zh) (.int .u64 Zl))
                  clear gt' gx gz hb
                  go_wp2_with fail
                  go_roundw
                  case rel => exact ⟨j + 1, by omega, by go_num, ha.out, by rw [hZ.out]; exact gxF.out, gzF.out, hbF.out⟩
                  case measure => simp [intOf]; omega
              · rw [show RN (v * 10 + dg) = (zero, 3) from if_neg ha] at cA
                have hP := hover'.out (fun hh => ha (by rw [← hnext.out]; have := hmono.out; omega))
                obtain ⟨Z, hZ⟩ : ∃ Z : WI, zero = Z := ⟨_, rfl⟩
                rw [hZ] at cA
                clear hZ
                generalize nw (v * 10) = Y at *
                generalize nw v = V at *
                clear hm hv hnext ha hwr
                obtain ⟨Yn, Yh, Yl⟩ := Y
                obtain ⟨Zn, Zh, Zl⟩ := Z
                obtain ⟨Vn, Vh, Vl⟩ := V
                obtain ⟨c0, c1, c2⟩ := gx.all
                (try unfold zero at cM cA)
                unfold wv at cM cA
                dsimp only at cM cA c0 c1 c2
                replace cM := Lib.hid cM
                replace cA := Lib.hid cA
                replace gx := Lib.hid gx
                replace gz := Lib.hid gz
                replace hb := Lib.hid hb
                go_wp2_with fail
                refine (cM.out.on _).mono ?_
                rintro e w5 ⟨rfl, hbr⟩
                clear c0 c1 c2
                have q5 := (gx.out.below hbr).lt
                have gy := Lib.hid (show IsN (w5.alloc (oN ⟨Yn, Yh, Yl⟩)) w5.heap.size ⟨Yn, Yh, Yl⟩ from IsN.new w5 ⟨Yn, Yh, Yl⟩)
                replace gx := Lib.hid ((gx.out.below hbr).alloc (oN ⟨Yn, Yh, Yl⟩))
                replace gz := Lib.hid ((gz.out.below hbr).alloc (oN ⟨Yn, Yh, Yl⟩))
                replace hb := Lib.hid (below_drewed ((below_up hb.out hb.out.size hbr).alloc (by have := hb.out.size; have := hbr.size; omega) (oN ⟨Yn, Yh, Yl⟩)))
                clear hbr
                have hs := hb.out.size
                obtain ⟨y0, y1, y2⟩ := gy.out.all
                dsimp only at y0 y1 y2
                go_wp2_with fail
                refine wp_region_held_at (S := fun w1 => w1.cell? ⟨w5.heap.size, 0, none⟩ = some (.bool Yn) ∧ w1.cell? ⟨w5.heap.size, 1, none⟩ = some (.int .u64 Yh) ∧ w1.cell? ⟨w5.heap.size, 2, none⟩ = some (.int .u64 Yl)) 14 rfl (by kernel_rfl) (by go_keep) (fun hH => ?_)
                refine wpAnyH_take (i := 0) (v := ?_) rfl (by decide +kernel) (by decide +kernel) (by decide +kernel) (fun _ _ _ h => h) (Or.inl ⟨by rfl, ?_⟩) (by assumption) ?_
                rotate_left
                · intro w1 hSw; (try dsimp only at hSw); (try simp only [List.getElem_toArray, List.getElem_cons_zero]); go_simp; try with_reducible rfl
                try simp only [List.getElem_toArray, List.getElem_cons_zero, Act.put, List.setIfInBounds_toArray, List.set_cons_zero, List.set_cons_succ]
                refine wpAnyH_take (i := 1) (v := ?_) rfl (by decide +kernel) (by decide +kernel) (by decide +kernel) (fun _ _ _ h => h) (Or.inl ⟨by rfl, ?_⟩) (by assumption) ?_
                rotate_left
                · intro w1 hSw; (try dsimp only at hSw); (try simp only [List.getElem_toArray, List.getElem_cons_zero, List.getElem_cons_succ]); go_simp; try with_reducible rfl
                try simp only [List.getElem_toArray, List.getElem_cons_zero, List.getElem_cons_succ, Act.put, List.setIfInBounds_toArray, List.set_cons_zero, List.set_cons_succ]
                refine wpAnyH_take (i := 2) (v := ?_) rfl (by decide +kernel) (by decide +kernel) (by decide +kernel) (fun _ _ _ h => h) (Or.inl ⟨by rfl, ?_⟩) (by assumption) ?_
                rotate_left
                · intro w1 hSw; (try dsimp only at hSw); (try simp only [List.getElem_toArray, List.getElem_cons_zero, List.getElem_cons_succ]); go_simp; try with_reducible rfl
                try simp only [List.getElem_toArray, List.getElem_cons_zero, List.getElem_cons_succ, Act.put, List.setIfInBounds_toArray, List.set_cons_zero, List.set_cons_succ]
                refine wpAnyH_take (i := 3) (v := ?_) rfl (by decide +kernel) (by decide +kernel) (by decide +kernel) (fun _ _ _ h => h) (Or.inl ⟨by rfl, ?_⟩) (by assumption) ?_
                rotate_left
                · intro w1 hSw; (try dsimp only at hSw); (try simp only [List.getElem_toArray, List.getElem_cons_zero, List.getElem_cons_succ]); go_simp; try with_reducible rfl
                try simp only [List.getElem_toArray, List.getElem_cons_zero, List.getElem_cons_succ, Act.put, List.setIfInBounds_toArray, List.set_cons_zero, List.set_cons_succ]
                refine wpAnyH_take (i := 4) (v := ?_) rfl (by decide +kernel) (by decide +kernel) (by decide +kernel) (fun _ _ _ h => h) (Or.inl ⟨by rfl, ?_⟩) (by assumption) ?_
                rotate_left
                · intro w1 hSw; (try dsimp only at hSw); (try simp only [List.getElem_toArray, List.getElem_cons_zero, List.getElem_cons_succ]); go_simp; try with_reducible rfl
                try simp only [List.getElem_toArray, List.getElem_cons_zero, List.getElem_cons_succ, Act.put, List.setIfInBounds_toArray, List.set_cons_zero, List.set_cons_succ]
                refine wpAnyH_take (i := 5) (v := ?_) rfl (by decide +kernel) (by decide +kernel) (by decide +kernel) (fun _ _ _ h => h) (Or.inl ⟨by rfl, ?_⟩) (by assumption) ?_
                rotate_left
                · intro w1 hSw; (try dsimp only at hSw); (try simp only [List.getElem_toArray, List.getElem_cons_zero, List.getElem_cons_succ]); go_simp; try with_reducible rfl
                try simp only [List.getElem_toArray, List.getElem_cons_zero, List.getElem_cons_succ, Act.put, List.setIfInBounds_toArray, List.set_cons_zero, List.set_cons_succ]
                refine wpAnyH_take (i := 6) (v := ?_) rfl (by decide +kernel) (by decide +kernel) (by decide +kernel) (fun _ _ _ h => h) (Or.inl ⟨by rfl, ?_⟩) (by assumption) ?_
                rotate_left
                · intro w1 hSw; (try dsimp only at hSw); (try simp only [List.getElem_toArray, List.getElem_cons_zero, List.getElem_cons_succ]); go_simp; try with_reducible rfl
                try simp only [List.getElem_toArray, List.getElem_cons_zero, List.getElem_cons_succ, Act.put, List.setIfInBounds_toArray, List.set_cons_zero, List.set_cons_succ]
                refine wpAnyH_ready (rs := [7, 11]) (by decide +kernel) (by simp) ?_
                refine AllReadyH.cons rfl (fun K hK => ?_) (AllReadyH.cons rfl (fun K hK => ?_) AllReadyH.nil)
                · (try simp only [List.getElem_toArray, List.getElem_cons_zero, List.getElem_cons_succ])
                  go_simp
                  refine (cA.out.on _).mono ?_
                  rintro e w6 ⟨rfl, hbr⟩
                  have gy2 := Lib.hid (isN_of hbr gy.out)
                  have gx2 := Lib.hid (isN_of hbr gx.out)
                  have gz2 := Lib.hid (isN_of hbr gz.out)
                  have hb2 := Lib.hid (below_up hb.out hb.out.size hbr)
                  clear hH hb hs hbr y0 y1 y2 gy gx gz
                  have hs := hb2.out.size
                  obtain ⟨y0, y1, y2⟩ := gy2.out.all
                  dsimp only at y0 y1 y2
                  go_simp
                  refine hK.out _ _ (by go_keep) (fun hH => ?_)
                  clear hK K
                  try simp only [List.getElem_toArray, List.getElem_cons_zero, List.getElem_cons_succ, Act.put, List.setIfInBounds_toArray, List.set_cons_zero, List.set_cons_succ]
                  refine wpAnyH_take (i := 8) (v := ?_) rfl (by decide +kernel) (by decide +kernel) (by decide +kernel) (fun _ _ _ h => h) (Or.inl ⟨by rfl, ?_⟩) (by assumption) ?_
                  rotate_left
                  · intro w1 hSw; (try dsimp only at hSw); (try simp only [List.getElem_toArray, List.getElem_cons_zero, List.getElem_cons_succ]); go_simp; try with_reducible rfl
                  try simp only [List.getElem_toArray, List.getElem_cons_zero, List.getElem_cons_succ, Act.put, List.setIfInBounds_toArray, List.set_cons_zero, List.set_cons_succ]
                  refine wpAnyH_take (i := 9) (v := ?_) rfl (by decide +kernel) (by decide +kernel) (by decide +kernel) (fun _ _ _ h => h) (Or.inl ⟨by rfl, ?_⟩) (by assumption) ?_
                  rotate_left
                  · intro w1 hSw; (try dsimp only at hSw); (try simp only [List.getElem_toArray, List.getElem_cons_zero, List.getElem_cons_succ]); go_simp; try with_reducible rfl
                  try simp only [List.getElem_toArray, List.getElem_cons_zero, List.getElem_cons_succ, Act.put, List.setIfInBounds_toArray, List.set_cons_zero, List.set_cons_succ]
                  refine wpAnyH_take (i := 10) (v := ?_) rfl (by decide +kernel) (by decide +kernel) (by decide +kernel) (fun _ _ _ h => h) (Or.inl ⟨by rfl, ?_⟩) (by assumption) ?_
                  rotate_left
                  · intro w1 hSw; (try dsimp only at hSw); (try simp only [List.getElem_toArray, List.getElem_cons_zero, List.getElem_cons_succ]); go_simp; try with_reducible rfl
                  try simp only [List.getElem_toArray, List.getElem_cons_zero, List.getElem_cons_succ, Act.put, List.setIfInBounds_toArray, List.set_cons_zero, List.set_cons_succ]
                  clear y0 y1 y2
                  have gt := Lib.hid (show IsN (w6.alloc (oN ⟨false, 0, 0⟩)) w6.heap.size ⟨false, 0, 0⟩ from IsN.new w6 ⟨false, 0, 0⟩)
                  obtain ⟨y0, y1, y2⟩ := (gy2.out.alloc (oN ⟨false, 0, 0⟩)).all
                  dsimp only at y0 y1 y2
                  refine wpAnyH_ready (rs := [11]) (by decide +kernel) (by simp) ?_
                  refine AllReadyH.cons rfl (fun K hK => ?_) AllReadyH.nil
                  (try simp only [List.getElem_toArray, List.getElem_cons_zero, List.getElem_cons_succ])
                  go_simp
                  clear hH
                  refine hK.out _ _ (by go_keep) (fun hH => ?_)
                  clear hK K
                  try simp only [List.getElem_toArray, List.getElem_cons_zero, List.getElem_cons_succ, Act.put, List.setIfInBounds_toArray, List.set_cons_zero, List.set_cons_succ]
                  clear y0 y1 y2
                  obtain ⟨y0, y1, y2⟩ := (gy2.out.alloc (oN ⟨Zn, Zh, Zl⟩)).all
                  dsimp only at y0 y1 y2
                  refine wpAnyH_ready (rs := [12]) (by decide +kernel) (by simp) ?_
                  refine AllReadyH.cons rfl (fun K hK => ?_) AllReadyH.nil
                  (try simp only [List.getElem_toArray, List.getElem_cons_zero, List.getElem_cons_succ])
                  go_simp
                  clear hH
                  refine hK.out _ _ (by go_keep) (fun hH => ?_)
                  clear hK K
                  try simp only [List.getElem_toArray, List.getElem_cons_zero, List.getElem_cons_succ, Act.put, List.setIfInBounds_toArray, List.set_cons_zero, List.set_cons_succ]
                  refine wpAnyH_take (i := 13) (v := ?_) rfl (by decide +kernel) (by decide +kernel) (by decide +kernel) (fun _ _ _ h => h) (Or.inl ⟨by rfl, ?_⟩) (by assumption) ?_
                  rotate_left
                  · intro w1 hSw; (try dsimp only at hSw); (try simp only [List.getElem_toArray, List.getElem_cons_zero, List.getElem_cons_succ]); go_simp; try with_reducible rfl
                  try simp only [List.getElem_toArray, List.getElem_cons_zero, List.getElem_cons_succ, Act.put, List.setIfInBounds_toArray, List.set_cons_zero, List.set_cons_succ]
                  refine wpAnyH_done (by decide +kernel) ?_ _
                  clear hH y0 y1 y2
                  have gt' := Lib.hid (show IsN (w6.alloc (oN ⟨Zn, Zh, Zl⟩)) w6.heap.size ⟨Zn, Zh, Zl⟩ from IsN.new w6 ⟨Zn, Zh, Zl⟩)
                  have gx := Lib.hid (gx2.out.alloc (oN ⟨Zn, Zh, Zl⟩))
                  have gz := Lib.hid (gz2.out.alloc (oN ⟨Zn, Zh, Zl⟩))
                  have hb := Lib.hid (hb2.out.alloc hs (oN ⟨Zn, Zh, Zl⟩))
                  clear gt gy2 gx2 gz2 hb2 hs
                  clear gt' gx
                  replace gz := gz.out
                  replace hb := hb.out
                  obtain ⟨z0, z1, z2⟩ := gz.all
                  have fz := gz.f
                  obtain ⟨r0, r1, r2, hfin⟩ := last_set gz ⟨false, 0, 0⟩ hb (Nat.le_refl _)
                  dsimp only [zero] at z0 z1 z2 r0 r1 r2 hfin
                  replace hfin := Lib.hid hfin
                  clear gz hb
                  go_wp2_with fail
                  (try simp only [Exit.inBlock, Exit.then])
                  refine bodyPost_ret (by simp [results, Tryd.results15, go_sem, r0, r1, r2]; try rfl) rfl ?_
                  exact ⟨by (try rw [hP]); rfl, hfin.out⟩
                · (try simp only [List.getElem_toArray, List.getElem_cons_zero, List.getElem_cons_succ])
                  have gt := Lib.hid (show IsN (((w5.alloc (oN ⟨Yn, Yh, Yl⟩)).drew).alloc (oN ⟨false, 0, 0⟩)) (w5.heap.size + 1) ⟨false, 0, 0⟩ from by have := IsN.new ((w5.alloc (oN ⟨Yn, Yh, Yl⟩)).drew) ⟨false, 0, 0⟩; rwa [show ((w5.alloc (oN ⟨Yn, Yh, Yl⟩)).drew).heap.size = w5.heap.size + 1 from size_alloc w5 _] at this)
                  have gy' := Lib.hid (IsN.alloc (w := (w5.alloc (oN ⟨Yn, Yh, Yl⟩)).drew) gy.out (oN ⟨false, 0, 0⟩))
                  have gx' := Lib.hid (IsN.alloc (w := (w5.alloc (oN ⟨Yn, Yh, Yl⟩)).drew) gx.out (oN ⟨false, 0, 0⟩))
                  have gz' := Lib.hid (IsN.alloc (w := (w5.alloc (oN ⟨Yn, Yh, Yl⟩)).drew) gz.out (oN ⟨false, 0, 0⟩))
                  have hb' := Lib.hid (hb.out.alloc hs (oN ⟨false, 0, 0⟩))
                  clear y0 y1 y2 hb hs gy gx gz
                  have gy := gy'
                  have gx := gx'
                  have gz := gz'
                  have hb := hb'
                  clear gy' gx' gz' hb'
                  have hs := hb.out.size
                  obtain ⟨y0, y1, y2⟩ := gy.out.all
                  dsimp only at y0 y1 y2
                  go_simp
                  refine hK.out _ _ (by go_keep) (fun hH => ?_)
                  clear hK K
                  try simp only [List.getElem_toArray, List.getElem_cons_zero, List.getElem_cons_succ, Act.put, List.setIfInBounds_toArray, List.set_cons_zero, List.set_cons_succ]
                  refine wpAnyH_ready (rs := [7]) (by decide +kernel) (by simp) ?_
                  refine AllReadyH.cons rfl (fun K hK => ?_) AllReadyH.nil
                  (try simp only [List.getElem_toArray, List.getElem_cons_zero, List.getElem_cons_succ])
                  go_simp
                  refine (cA.out.on _).mono ?_
                  rintro e w6 ⟨rfl, hbr⟩
                  have gy2 := Lib.hid (isN_of hbr gy.out)
                  have gx2 := Lib.hid (isN_of hbr gx.out)
                  have gz2 := Lib.hid (isN_of hbr gz.out)
                  have hb2 := Lib.hid (below_up hb.out hb.out.size hbr)
                  have gt2 := Lib.hid (isN_of hbr gt.out)
                  clear hH hb hs hbr y0 y1 y2 gy gx gz
                  have hs := hb2.out.size
                  obtain ⟨y0, y1, y2⟩ := gy2.out.all
                  dsimp only at y0 y1 y2
                  go_simp
                  clear gt
                  refine hK.out _ _ (by go_keep) (fun hH => ?_)
                  clear hK K
                  try simp only [List.getElem_toArray, List.getElem_cons_zero, List.getElem_cons_succ, Act.put, List.setIfInBounds_toArray, List.set_cons_zero, List.set_cons_succ]
                  refine wpAnyH_take (i := 8) (v := ?_) rfl (by decide +kernel) (by decide +kernel) (by decide +kernel) (fun _ _ _ h => h) (Or.inl ⟨by rfl, ?_⟩) (by assumption) ?_
                  rotate_left
                  · intro w1 hSw; (try dsimp only at hSw); (try simp only [List.getElem_toArray, List.getElem_cons_zero, List.getElem_cons_succ]); go_simp; try with_reducible rfl
                  try simp only [List.getElem_toArray, List.getElem_cons_zero, List.getElem_cons_succ, Act.put, List.setIfInBounds_toArray, List.set_cons_zero, List.set_cons_succ]
                  refine wpAnyH_take (i := 9) (v := ?_) rfl (by decide +kernel) (by decide +kernel) (by decide +kernel) (fun _ _ _ h => h) (Or.inl ⟨by rfl, ?_⟩) (by assumption) ?_
                  rotate_left
                  · intro w1 hSw; (try dsimp only at hSw); (try simp only [List.getElem_toArray, List.getElem_cons_zero, List.getElem_cons_succ]); go_simp; try with_reducible rfl
                  try simp only [List.getElem_toArray, List.getElem_cons_zero, List.getElem_cons_succ, Act.put, List.setIfInBounds_toArray, List.set_cons_zero, List.set_cons_succ]
                  refine wpAnyH_take (i := 10) (v := ?_) rfl (by decide +kernel) (by decide +kernel) (by decide +kernel) (fun _ _ _ h => h) (Or.inl ⟨by rfl, ?_⟩) (by assumption) ?_
                  rotate_left
                  · intro w1 hSw; (try dsimp only at hSw); (try simp only [List.getElem_toArray, List.getElem_cons_zero, List.getElem_cons_succ]); go_simp; try with_reducible rfl
                  try simp only [List.getElem_toArray, List.getElem_cons_zero, List.getElem_cons_succ, Act.put, List.setIfInBounds_toArray, List.set_cons_zero, List.set_cons_succ]
                  obtain ⟨t0, t1, t2⟩ := gt2.out.all
                  have ft := gt2.out.f
                  dsimp only at t0 t1 t2
                  clear y0 y1 y2
                  obtain ⟨y0, y1, y2⟩ := (gy2.out.set3_other (c := w5.heap.size + 1) (v0 := .bool Zn) (v1 := .int .u64 Zh) (v2 := .int .u64 Zl) (by omega)).all
                  dsimp only at y0 y1 y2
                  refine wpAnyH_ready (rs := [12]) (by decide +kernel) (by simp) ?_
                  refine AllReadyH.cons rfl (fun K hK => ?_) AllReadyH.nil
                  (try simp only [List.getElem_toArray, List.getElem_cons_zero, List.getElem_cons_succ])
                  go_simp
                  clear hH
                  refine hK.out _ _ (by go_keep) (fun hH => ?_)
                  clear hK K
                  try simp only [List.getElem_toArray, List.getElem_cons_zero, List.getElem_cons_succ, Act.put, List.setIfInBounds_toArray, List.set_cons_zero, List.set_cons_succ]
                  refine wpAnyH_take (i := 13) (v := ?_) rfl (by decide +kernel) (by decide +kernel) (by decide +kernel) (fun _ _ _ h => h) (Or.inl ⟨by rfl, ?_⟩) (by assumption) ?_
                  rotate_left
                  · intro w1 hSw; (try dsimp only at hSw); (try simp only [List.getElem_toArray, List.getElem_cons_zero, List.getElem_cons_succ]); go_simp; try with_reducible rfl
                  try simp only [List.getElem_toArray, List.getElem_cons_zero, List.getElem_cons_succ, Act.put, List.setIfInBounds_toArray, List.set_cons_zero, List.set_cons_succ]
                  refine wpAnyH_done (by decide +kernel) ?_ _
                  clear hH y0 y1 y2 t0 t1 t2 ft
                  have gt' := Lib.hid (gt2.out.set Zn Zh Zl)
                  have gx := Lib.hid (gx2.out.set3_other (c := w5.heap.size + 1) (v0 := .bool Zn) (v1 := .int .u64 Zh) (v2 := .int .u64 Zl) (by omega))
                  have gz := Lib.hid (gz2.out.set3_other (c := w5.heap.size + 1) (v0 := .bool Zn) (v1 := .int .u64 Zh) (v2 := .int .u64 Zl) (by omega))
                  have hb := Lib.hid (below_set3 hb2.out (show w.heap.size ≤ w5.heap.size + 1 by omega) (.bool Zn) (.int .u64 Zh) (.int .u64 Zl))
                  clear gt2 gy2 gx2 gz2 hb2 hs
                  clear gt' gx
                  replace gz := gz.out
                  replace hb := hb.out
                  obtain ⟨z0, z1, z2⟩ := gz.all
                  have fz := gz.f
                  obtain ⟨r0, r1, r2, hfin⟩ := last_set gz ⟨false, 0, 0⟩ hb (Nat.le_refl _)
                  dsimp only [zero] at z0 z1 z2 r0 r1 r2 hfin
                  replace hfin := Lib.hid hfin
                  clear gz hb
                  go_wp2_with fail
                  (try simp only [Exit.inBlock, Exit.then])
                  refine bodyPost_ret (by simp [results, Tryd.results15, go_sem, r0, r1, r2]; try rfl) rfl ?_
                  exact ⟨by (try rw [hP]); rfl, hfin.out⟩
            · rw [show RN (v * 10) = (zero, 3) from if_neg hm] at cM
              have cA := refAdd_c (nw 0) (nw dg) (nw_ok (by decide)) (nw_ok (by omega))
              rw [addN (by decide) (by omega), ← ofWord_nw dg (by omega), ← hwr, show RN (0 + dg) = (nw (0 + dg), 0) from if_pos (by omega), nw_zero] at cA
              have hP := hover'.out (fun hh => hm (by have h1 := hnext.out; have := hmono.out; omega))
              obtain ⟨Y, hY⟩ : ∃ Y : WI, zero = Y := ⟨_, rfl⟩
              rw [hY] at cA cM
              clear hY
              generalize nw (0 + dg) = Z at *
              generalize nw v = V at *
              clear hm hv hnext hwr
              obtain ⟨Yn, Yh, Yl⟩ := Y
              obtain ⟨Zn, Zh, Zl⟩ := Z
              obtain ⟨Vn, Vh, Vl⟩ := V
              obtain ⟨c0, c1, c2⟩ := gx.all
              (try unfold zero at cM cA)
              unfold wv at cM cA
              dsimp only at cM cA c0 c1 c2
              replace cM := Lib.hid cM
              replace cA := Lib.hid cA
              replace gx := Lib.hid gx
              replace gz := Lib.hid gz
              replace hb := Lib.hid hb
              go_wp2_with fail
              refine (cM.out.on _).mono ?_
              rintro e w5 ⟨rfl, hbr⟩
              clear c0 c1 c2
              have q5 := (gx.out.below hbr).lt
              have gy := Lib.hid (show IsN (w5.alloc (oN ⟨Yn, Yh, Yl⟩)) w5.heap.size ⟨Yn, Yh, Yl⟩ from IsN.new w5 ⟨Yn, Yh, Yl⟩)
              replace gx := Lib.hid ((gx.out.below hbr).alloc (oN ⟨Yn, Yh, Yl⟩))
              replace gz := Lib.hid ((gz.out.below hbr).alloc (oN ⟨Yn, Yh, Yl⟩))
              replace hb := Lib.hid (below_drewed ((below_up hb.out hb.out.size hbr).alloc (by have := hb.out.size; have := hbr.size; omega) (oN ⟨Yn, Yh, Yl⟩)))
              clear hbr
              have hs := hb.out.size
              obtain ⟨y0, y1, y2⟩ := gy.out.all
              dsimp only at y0 y1 y2
              go_wp2_with fail
              refine wp_region_held_at (S := fun w1 => w1.cell? ⟨w5.heap.size, 0, none⟩ = some (.bool Yn) ∧ w1.cell? ⟨w5.heap.size, 1, none⟩ = some (.int .u64 Yh) ∧ w1.cell? ⟨w5.heap.size, 2, none⟩ = some (.int .u64 Yl)) 14 rfl (by kernel_rfl) (by go_keep) (fun hH => ?_)
              refine wpAnyH_take (i := 0) (v := ?_) rfl (by decide +kernel) (by decide +kernel) (by decide +kernel) (fun _ _ _ h => h) (Or.inl ⟨by rfl, ?_⟩) (by assumption) ?_
              rotate_left
              · intro w1 hSw; (try dsimp only at hSw); (try simp only [List.getElem_toArray, List.getElem_cons_zero]); go_simp; try with_reducible rfl
              try simp only [List.getElem_toArray, List.getElem_cons_zero, Act.put, List.setIfInBounds_toArray, List.set_cons_zero, List.set_cons_succ]
              refine wpAnyH_take (i := 1) (v := ?_) rfl (by decide +kernel) (by decide +kernel) (by decide +kernel) (fun _ _ _ h => h) (Or.inl ⟨by rfl, ?_⟩) (by assumption) ?_
              rotate_left
              · intro w1 hSw; (try dsimp only at hSw); (try simp only [List.getElem_toArray, List.getElem_cons_zero, List.getElem_cons_succ]); go_simp; try with_reducible rfl
              try simp only [List.getElem_toArray, List.getElem_cons_zero, List.getElem_cons_succ, Act.put, List.setIfInBounds_toArray, List.set_cons_zero, List.set_cons_succ]
              refine wpAnyH_take (i := 2) (v := ?_) rfl (by decide +kernel) (by decide +kernel) (by decide +kernel) (fun _ _ _ h => h) (Or.inl ⟨by rfl, ?_⟩) (by assumption) ?_
              rotate_left
              · intro w1 hSw; (try dsimp only at hSw); (try simp only [List.getElem_toArray, List.getElem_cons_zero, List.getElem_cons_succ]); go_simp; try with_reducible rfl
              try simp only [List.getElem_toArray, List.getElem_cons_zero, List.getElem_cons_succ, Act.put, List.setIfInBounds_toArray, List.set_cons_zero, List.set_cons_succ]
              refine wpAnyH_take (i := 3) (v := ?_) rfl (by decide +kernel) (by decide +kernel) (by decide +kernel) (fun _ _ _ h => h) (Or.inl ⟨by rfl, ?_⟩) (by assumption) ?_
              rotate_left
              · intro w1 hSw; (try dsimp only at hSw); (try simp only [List.getElem_toArray, List.getElem_cons_zero, List.getElem_cons_succ]); go_simp; try with_reducible rfl
              try simp only [List.getElem_toArray, List.getElem_cons_zero, List.getElem_cons_succ, Act.put, List.setIfInBounds_toArray, List.set_cons_zero, List.set_cons_succ]
              refine wpAnyH_take (i := 4) (v := ?_) rfl (by decide +kernel) (by decide +kernel) (by decide +kernel) (fun _ _ _ h => h) (Or.inl ⟨by rfl, ?_⟩) (by assumption) ?_
              rotate_left
              · intro w1 hSw; (try dsimp only at hSw); (try simp only [List.getElem_toArray, List.getElem_cons_zero, List.getElem_cons_succ]); go_simp; try with_reducible rfl
              try simp only [List.getElem_toArray, List.getElem_cons_zero, List.getElem_cons_succ, Act.put, List.setIfInBounds_toArray, List.set_cons_zero, List.set_cons_succ]
              refine wpAnyH_take (i := 5) (v := ?_) rfl (by decide +kernel) (by decide +kernel) (by decide +kernel) (fun _ _ _ h => h) (Or.inl ⟨by rfl, ?_⟩) (by assumption) ?_
              rotate_left
              · intro w1 hSw; (try dsimp only at hSw); (try simp only [List.getElem_toArray, List.getElem_cons_zero, List.getElem_cons_succ]); go_simp; try with_reducible rfl
              try simp only [List.getElem_toArray, List.getElem_cons_zero, List.getElem_cons_succ, Act.put, List.setIfInBounds_toArray, List.set_cons_zero, List.set_cons_succ]
              refine wpAnyH_take (i := 6) (v := ?_) rfl (by decide +kernel) (by decide +kernel) (by decide +kernel) (fun _ _ _ h => h) (Or.inl ⟨by rfl, ?_⟩) (by assumption) ?_
              rotate_left
              · intro w1 hSw; (try dsimp only at hSw); (try simp only [List.getElem_toArray, List.getElem_cons_zero, List.getElem_cons_succ]); go_simp; try with_reducible rfl
              try simp only [List.getElem_toArray, List.getElem_cons_zero, List.getElem_cons_succ, Act.put, List.setIfInBounds_toArray, List.set_cons_zero, List.set_cons_succ]
              refine wpAnyH_ready (rs := [7, 11]) (by decide +kernel) (by simp) ?_
              refine AllReadyH.cons rfl (fun K hK => ?_) (AllReadyH.cons rfl (fun K hK => ?_) AllReadyH.nil)
              · (try simp only [List.getElem_toArray, List.getElem_cons_zero, List.getElem_cons_succ])
                go_simp
                refine (cA.out.on _).mono ?_
                rintro e w6 ⟨rfl, hbr⟩
                have gy2 := Lib.hid (isN_of hbr gy.out)
                have gx2 := Lib.hid (isN_of hbr gx.out)
                have gz2 := Lib.hid (isN_of hbr gz.out)
                have hb2 := Lib.hid (below_up hb.out hb.out.size hbr)
                clear hH hb hs hbr y0 y1 y2 gy gx gz
                have hs := hb2.out.size
                obtain ⟨y0, y1, y2⟩ := gy2.out.all
                dsimp only at y0 y1 y2
                go_simp
                refine hK.out _ _ (by go_keep) (fun hH => ?_)
                clear hK K
                try simp only [List.getElem_toArray, List.getElem_cons_zero, List.getElem_cons_succ, Act.put, List.setIfInBounds_toArray, List.set_cons_zero, List.set_cons_succ]
                refine wpAnyH_take (i := 8) (v := ?_) rfl (by decide +kernel) (by decide +kernel) (by decide +kernel) (fun _ _ _ h => h) (Or.inl ⟨by rfl, ?_⟩) (by assumption) ?_
                rotate_left
                · intro w1 hSw; (try dsimp only at hSw); (try simp only [List.getElem_toArray, List.getElem_cons_zero, List.getElem_cons_succ]); go_simp; try with_reducible rfl
                try simp only [List.getElem_toArray, List.getElem_cons_zero, List.getElem_cons_succ, Act.put, List.setIfInBounds_toArray, List.set_cons_zero, List.set_cons_succ]
                refine wpAnyH_take (i := 9) (v := ?_) rfl (by decide +kernel) (by decide +kernel) (by decide +kernel) (fun _ _ _ h => h) (Or.inl ⟨by rfl, ?_⟩) (by assumption) ?_
                rotate_left
                · intro w1 hSw; (try dsimp only at hSw); (try simp only [List.getElem_toArray, List.getElem_cons_zero, List.getElem_cons_succ]); go_simp; try with_reducible rfl
                try simp only [List.getElem_toArray, List.getElem_cons_zero, List.getElem_cons_succ, Act.put, List.setIfInBounds_toArray, List.set_cons_zero, List.set_cons_succ]
                refine wpAnyH_take (i := 10) (v := ?_) rfl (by decide +kernel) (by decide +kernel) (by decide +kernel) (fun _ _ _ h => h) (Or.inl ⟨by rfl, ?_⟩) (by assumption) ?_
                rotate_left
                · intro w1 hSw; (try dsimp only at hSw); (try simp only [List.getElem_toArray, List.getElem_cons_zero, List.getElem_cons_succ]); go_simp; try with_reducible rfl
                try simp only [List.getElem_toArray, List.getElem_cons_zero, List.getElem_cons_succ, Act.put, List.setIfInBounds_toArray, List.set_cons_zero, List.set_cons_succ]
                clear y0 y1 y2
                have gt := Lib.hid (show IsN (w6.alloc (oN ⟨false, 0, 0⟩)) w6.heap.size ⟨false, 0, 0⟩ from IsN.new w6 ⟨false, 0, 0⟩)
                obtain ⟨y0, y1, y2⟩ := (gy2.out.alloc (oN ⟨false, 0, 0⟩)).all
                dsimp only at y0 y1 y2
                refine wpAnyH_ready (rs := [11]) (by decide +kernel) (by simp) ?_
                refine AllReadyH.cons rfl (fun K hK => ?_) AllReadyH.nil
                (try simp only [List.getElem_toArray, List.getElem_cons_zero, List.getElem_cons_succ])
                go_simp
                clear hH
                refine hK.out _ _ (by go_keep) (fun hH => ?_)
                clear hK K
                try simp only [List.getElem_toArray, List.getElem_cons_zero, List.getElem_cons_succ, Act.put, List.setIfInBounds_toArray, List.set_cons_zero, List.set_cons_succ]
                clear y0 y1 y2
                obtain ⟨y0, y1, y2⟩ := (gy2.out.alloc (oN ⟨Zn, Zh, Zl⟩)).all
                dsimp only at y0 y1 y2
                refine wpAnyH_ready (rs := [12]) (by decide +kernel) (by simp) ?_
                refine AllReadyH.cons rfl (fun K hK => ?_) AllReadyH.nil
                (try simp only [List.getElem_toArray, List.getElem_cons_zero, List.getElem_cons_succ])
                go_simp
                clear hH
                refine hK.out _ _ (by go_keep) (fun hH => ?_)
                clear hK K
                try simp only [List.getElem_toArray, List.getElem_cons_zero, List.getElem_cons_succ, Act.put, List.setIfInBounds_toArray, List.set_cons_zero, List.set_cons_succ]
                refine wpAnyH_take (i := 13) (v := ?_) rfl (by decide +kernel) (by decide +kernel) (by decide +kernel) (fun _ _ _ h => h) (Or.inl ⟨by rfl, ?_⟩) (by assumption) ?_
                rotate_left
                · intro w1 hSw; (try dsimp only at hSw); (try simp only [List.getElem_toArray, List.getElem_cons_zero, List.getElem_cons_succ]); go_simp; try with_reducible rfl
                try simp only [List.getElem_toArray, List.getElem_cons_zero, List.getElem_cons_succ, Act.put, List.setIfInBounds_toArray, List.set_cons_zero, List.set_cons_succ]
                refine wpAnyH_done (by decide +kernel) ?_ _
                clear hH y0 y1 y2
                have gt' := Lib.hid (show IsN (w6.alloc (oN ⟨Zn, Zh, Zl⟩)) w6.heap.size ⟨Zn, Zh, Zl⟩ from IsN.new w6 ⟨Zn, Zh, Zl⟩)
                have gx := Lib.hid (gx2.out.alloc (oN ⟨Zn, Zh, Zl⟩))
                have gz := Lib.hid (gz2.out.alloc (oN ⟨Zn, Zh, Zl⟩))
                have hb := Lib.hid (hb2.out.alloc hs (oN ⟨Zn, Zh, Zl⟩))
                clear gt gy2 gx2 gz2 hb2 hs
                clear gt' gx
                replace gz := gz.out
                replace hb := hb.out
                obtain ⟨z0, z1, z2⟩ := gz.all
                have fz := gz.f
                obtain ⟨r0, r1, r2, hfin⟩ := last_set gz ⟨false, 0, 0⟩ hb (Nat.le_refl _)
                dsimp only [zero] at z0 z1 z2 r0 r1 r2 hfin
                replace hfin := Lib.hid hfin
                clear gz hb
                go_wp2_with fail
                (try simp only [Exit.inBlock, Exit.then])
                refine bodyPost_ret (by simp [results, Tryd.results15, go_sem, r0, r1, r2]; try rfl) rfl ?_
                exact ⟨by (try rw [hP]); rfl, hfin.out⟩
              · (try simp only [List.getElem_toArray, List.getElem_cons_zero, List.getElem_cons_succ])
                have gt := Lib.hid (show IsN (((w5.alloc (oN ⟨Yn, Yh, Yl⟩)).drew).alloc (oN ⟨false, 0, 0⟩)) (w5.heap.size + 1) ⟨false, 0, 0⟩ from by have := IsN.new ((w5.alloc (oN ⟨Yn, Yh, Yl⟩)).drew) ⟨false, 0, 0⟩; rwa [show ((w5.alloc (oN ⟨Yn, Yh, Yl⟩)).drew).heap.size = w5.heap.size + 1 from size_alloc w5 _] at this)
                have gy' := Lib.hid (IsN.alloc (w := (w5.alloc (oN ⟨Yn, Yh, Yl⟩)).drew) gy.out (oN ⟨false, 0, 0⟩))
                have gx' := Lib.hid (IsN.alloc (w := (w5.alloc (oN ⟨Yn, Yh, Yl⟩)).drew) gx.out (oN ⟨false, 0, 0⟩))
                have gz' := Lib.hid (IsN.alloc (w := (w5.alloc (oN ⟨Yn, Yh, Yl⟩)).drew) gz.out (oN ⟨false, 0, 0⟩))
                have hb' := Lib.hid (hb.out.alloc hs (oN ⟨false, 0, 0⟩))
                clear y0 y1 y2 hb hs gy gx gz
                have gy := gy'
                have gx := gx'
                have gz := gz'
                have hb := hb'
                clear gy' gx' gz' hb'
                have hs := hb.out.size
                obtain ⟨y0, y1, y2⟩ := gy.out.all
                dsimp only at y0 y1 y2
                go_simp
                refine hK.out _ _ (by go_keep) (fun hH => ?_)
                clear hK K
                try simp only [List.getElem_toArray, List.getElem_cons_zero, List.getElem_cons_succ, Act.put, List.setIfInBounds_toArray, List.set_cons_zero, List.set_cons_succ]
                refine wpAnyH_ready (rs := [7]) (by decide +kernel) (by simp) ?_
                refine AllReadyH.cons rfl (fun K hK => ?_) AllReadyH.nil
                (try simp only [List.getElem_toArray, List.getElem_cons_zero, List.getElem_cons_succ])
                go_simp
                refine (cA.out.on _).mono ?_
                rintro e w6 ⟨rfl, hbr⟩
                have gy2 := Lib.hid (isN_of hbr gy.out)
                have gx2 := Lib.hid (isN_of hbr gx.out)
                have gz2 := Lib.hid (isN_of hbr gz.out)
                have hb2 := Lib.hid (below_up hb.out hb.out.size hbr)
                have gt2 := Lib.hid (isN_of hbr gt.out)
                clear hH hb hs hbr y0 y1 y2 gy gx gz
                have hs := hb2.out.size
                obtain ⟨y0, y1, y2⟩ := gy2.out.all
                dsimp only at y0 y1 y2
                go_simp
                clear gt
                refine hK.out _ _ (by go_keep) (fun hH => ?_)
                clear hK K
                try simp only [List.getElem_toArray, List.getElem_cons_zero, List.getElem_cons_succ, Act.put, List.setIfInBounds_toArray, List.set_cons_zero, List.set_cons_succ]
                refine wpAnyH_take (i := 8) (v := ?_) rfl (by decide +kernel) (by decide +kernel) (by decide +kernel) (fun _ _ _ h => h) (Or.inl ⟨by rfl, ?_⟩) (by assumption) ?_
                rotate_left
                · intro w1 hSw; (try dsimp only at hSw); (try simp only [List.getElem_toArray, List.getElem_cons_zero, List.getElem_cons_succ]); go_simp; try with_reducible rfl
                try simp only [List.getElem_toArray, List.getElem_cons_zero, List.getElem_cons_succ, Act.put, List.setIfInBounds_toArray, List.set_cons_zero, List.set_cons_succ]
                refine wpAnyH_take (i := 9) (v := ?_) rfl (by decide +kernel) (by decide +kernel) (by decide +kernel) (fun _ _ _ h => h) (Or.inl ⟨by rfl, ?_⟩) (by assumption) ?_
                rotate_left
                · intro w1 hSw; (try dsimp only at hSw); (try simp only [List.getElem_toArray, List.getElem_cons_zero, List.getElem_cons_succ]); go_simp; try with_reducible rfl
                try simp only [List.getElem_toArray, List.getElem_cons_zero, List.getElem_cons_succ, Act.put, List.setIfInBounds_toArray, List.set_cons_zero, List.set_cons_succ]
                refine wpAnyH_take (i := 10) (v := ?_) rfl (by decide +kernel) (by decide +kernel) (by decide +kernel) (fun _ _ _ h => h) (Or.inl ⟨by rfl, ?_⟩) (by assumption) ?_
                rotate_left
                · intro w1 hSw; (try dsimp only at hSw); (try simp only [List.getElem_toArray, List.getElem_cons_zero, List.getElem_cons_succ]); go_simp; try with_reducible rfl
                try simp only [List.getElem_toArray, List.getElem_cons_zero, List.getElem_cons_succ, Act.put, List.setIfInBounds_toArray, List.set_cons_zero, List.set_cons_succ]
                obtain ⟨t0, t1, t2⟩ := gt2.out.all
                have ft := gt2.out.f
                dsimp only at t0 t1 t2
                clear y0 y1 y2
                obtain ⟨y0, y1, y2⟩ := (gy2.out.set3_other (c := w5.heap.size + 1) (v0 := .bool Zn) (v1 := .int .u64 Zh) (v2 := .int .u64 Zl) (by omega)).all
                dsimp only at y0 y1 y2
                refine wpAnyH_ready (rs := [12]) (by decide +kernel) (by simp) ?_
                refine AllReadyH.cons rfl (fun K hK => ?_) AllReadyH.nil
                (try simp only [List.getElem_toArray, List.getElem_cons_zero, List.getElem_cons_succ])
                go_simp
                clear hH
                refine hK.out _ _ (by go_keep) (fun hH => ?_)
                clear hK K
                try simp only [List.getElem_toArray, List.getElem_cons_zero, List.getElem_cons_succ, Act.put, List.setIfInBounds_toArray, List.set_cons_zero, List.set_cons_succ]
                refine wpAnyH_take (i := 13) (v := ?_) rfl (by decide +kernel) (by decide +kernel) (by decide +kernel) (fun _ _ _ h => h) (Or.inl ⟨by rfl, ?_⟩) (by assumption) ?_
                rotate_left
                · intro w1 hSw; (try dsimp only at hSw); (try simp only [List.getElem_toArray, List.getElem_cons_zero, List.getElem_cons_succ]); go_simp; try with_reducible rfl
                try simp only [List.getElem_toArray, List.getElem_cons_zero, List.getElem_cons_succ, Act.put, List.setIfInBounds_toArray, List.set_cons_zero, List.set_cons_succ]
                refine wpAnyH_done (by decide +kernel) ?_ _
                clear hH y0 y1 y2 t0 t1 t2 ft
                have gt' := Lib.hid (gt2.out.set Zn Zh Zl)
                have gx := Lib.hid (gx2.out.set3_other (c := w5.heap.size + 1) (v0 := .bool Zn) (v1 := .int .u64 Zh) (v2 := .int .u64 Zl) (by omega))
                have gz := Lib.hid (gz2.out.set3_other (c := w5.heap.size + 1) (v0 := .bool Zn) (v1 := .int .u64 Zh) (v2 := .int .u64 Zl) (by omega))
                have hb := Lib.hid (below_set3 hb2.out (show w.heap.size ≤ w5.heap.size + 1 by omega) (.bool Zn) (.int .u64 Zh) (.int .u64 Zl))
                clear gt2 gy2 gx2 gz2 hb2 hs
                clear gt' gx
                replace gz := gz.out
                replace hb := hb.out
                obtain ⟨z0, z1, z2⟩ := gz.all
                have fz := gz.f
                obtain ⟨r0, r1, r2, hfin⟩ := last_set gz ⟨false, 0, 0⟩ hb (Nat.le_refl _)
                dsimp only [zero] at z0 z1 z2 r0 r1 r2 hfin
                replace hfin := Lib.hid hfin
                clear gz hb
                go_wp2_with fail
                (try simp only [Exit.inBlock, Exit.then])
                refine bodyPost_ret (by simp [results, Tryd.results15, go_sem, r0, r1, r2]; try rfl) rfl ?_
                exact ⟨by (try rw [hP]); rfl, hfin.out⟩
          · obtain rfl : j = s.size := by omega
            rw [List.take_of_length_le (show D.length ≤ s.size by have := hDl.out; omega)] at hv gx
            have hP := hok'.out hv
            clear hv
            obtain ⟨c0, c1, c2⟩ := gx.all
            have fx := gx.f
            have gx1 := gx.set0 false
            have q2 : w.heap.size ≠ wo.heap.size := by omega
            have gz1 := gz.set_other (c := wo.heap.size) (i := 0) (v := .bool false) (by omega)
            have hb1 := hb.setCell (show w.heap.size ≤ (⟨wo.heap.size, 0, none⟩ : Addr).block by show w.heap.size ≤ wo.heap.size; omega) (.bool false)
            obtain ⟨x0, x1, x2⟩ := gx1.all
            obtain ⟨z0, z1, z2⟩ := gz1.all
            have fz := gz1.f
            obtain ⟨r0, r1, r2, hfin⟩ := last_set gz1 ⟨false, (nw (valD D)).h, (nw (valD D)).l⟩ hb1 (Nat.le_refl _)
            dsimp only [zero] at c0 c1 c2 x0 x1 x2 z0 z1 z2 r0 r1 r2 hfin
            generalize (nw (valD D)).n = Xn at *
            generalize (nw (valD D)).h = Xh at *
            generalize (nw (valD D)).l = Xl at *
            replace hfin := Lib.hid hfin
            clear gz hb gx gx1 gz1 hb1
            go_wp2_with fail
            (try simp only [Exit.inBlock, Exit.then])
            refine bodyPost_ret (by simp [results, Tryd.results15, go_sem, r0, r1, r2]; try rfl) rfl ?_
            exact ⟨by (try rw [hP]); rfl, hfin.out⟩
end Go.Proofs.YtbfigpollacngaaDoor
