/- parts of the proof, merged: NmP -/
import Derived.Test.YtjjgbillihedgaaGreatDoorQy12
set_option maxHeartbeats 32000000
set_option maxRecDepth 100000
namespace Go.Proofs.YtjjgbillihedgaaGreatDoor
open Go.RowKit
open Rf
open Wide
theorem rp_te (s : ByteArray) (hp : 0 < s.size) (hs : s.size ≤ 100000) (hm : ((s[0].toNat : Int) == 45) = true) (T : ByteArray) (hT : s.extract 1 s.size = T) (h0 : T.size = 0) : wRet 108 #[.string s] (.tuple #[wv zero, .int .i64 4]) := fun w => by
 have gz0 : IsN (w.alloc (oN zero)) w.heap.size zero := IsN.new w zero
 have hb0 := wbelow1 w (oN zero)
 have hpI : (0 : Int) < (s.size : Int) := by omega
 go_enter Tryz.func108, Tryz.ntmps108
 go_upto_region 5 with fail
 (try rw [hT])
 clear hT
 have hne : ((T.size : Int) == 0) = true := by rw [h0]; rfl
 obtain ⟨z0, z1, z2⟩ := gz0.all
 have fz := gz0.f
 dsimp only [zero] at z0 z1 z2
 clear gz0
 go_wp2_with fail
 (try simp only [Exit.inBlock, Exit.then])
 refine bodyPost_ret (by simp [results, Tryz.results108, go_sem]; try rfl) rfl ?_
 exact ⟨rfl, hb0⟩
theorem rp_tz (s : ByteArray) (hp : 0 < s.size) (hs : s.size ≤ 100000) (hm : ((s[0].toNat : Int) == 45) = true) (T : ByteArray) (hT : s.extract 1 s.size = T) (h0 : 0 < T.size) (hz : ((T[0].toNat : Int) == 48) = true) (hz2 : (s.toList == [48]) = false) : wRet 108 #[.string s] (.tuple #[wv zero, .int .i64 4]) := fun w => by
 have gz0 : IsN (w.alloc (oN zero)) w.heap.size zero := IsN.new w zero
 have hb0 := wbelow1 w (oN zero)
 have hpI : (0 : Int) < (s.size : Int) := by omega
 go_enter Tryz.func108, Tryz.ntmps108
 go_upto_region 5 with fail
 (try rw [hT])
 clear hT
 have hne : ((T.size : Int) == 0) = false := beq_eq_false_iff_ne.2 (by omega)
 have hTpI : (0 : Int) < (T.size : Int) := by omega
 obtain ⟨z0, z1, z2⟩ := gz0.all
 have fz := gz0.f
 dsimp only [zero] at z0 z1 z2
 clear gz0
 go_wp2_with fail
 (try simp only [Exit.inBlock, Exit.then])
 refine bodyPost_ret (by simp [results, Tryz.results108, go_sem]; try rfl) rfl ?_
 exact ⟨rfl, hb0⟩
theorem rp_fz (s : ByteArray) (hp : 0 < s.size) (hs : s.size ≤ 100000) (hm : ((s[0].toNat : Int) == 45) = false) (hz : ((s[0].toNat : Int) == 48) = true) (hz2 : (s.toList == [48]) = false) : wRet 108 #[.string s] (.tuple #[wv zero, .int .i64 4]) := fun w => by
 have gz0 : IsN (w.alloc (oN zero)) w.heap.size zero := IsN.new w zero
 have hb0 := wbelow1 w (oN zero)
 have hpI : (0 : Int) < (s.size : Int) := by omega
 go_enter Tryz.func108, Tryz.ntmps108
 go_upto_region 5 with fail
 have hne : ((s.size : Int) == 0) = false := beq_eq_false_iff_ne.2 (by omega)
 obtain ⟨z0, z1, z2⟩ := gz0.all
 have fz := gz0.f
 dsimp only [zero] at z0 z1 z2
 clear gz0
 go_wp2_with fail
 (try simp only [Exit.inBlock, Exit.then])
 refine bodyPost_ret (by simp [results, Tryz.results108, go_sem]; try rfl) rfl ?_
 exact ⟨rfl, hb0⟩
theorem rp_h (s : ByteArray) (hp : 0 < s.size) (hs : s.size ≤ 100000) (T : ByteArray) (D : List UInt8) (hTD : byts T = D) (hDl : T.size = D.length) (hTp : 0 < T.size) (ng : Bool)
 (hc : (ng = true ∧ ((s[0].toNat : Int) == 45) = true ∧ s.extract 1 s.size = T ∧ ((T[0].toNat : Int) == 48) = false) ∨ (ng = false ∧ ((s[0].toNat : Int) == 45) = false ∧ s = T ∧ (((T[0].toNat : Int) == 48) = false ∨ (((T[0].toNat : Int) == 48) = true ∧ (s.toList == [48]) = true)))) (P : WI × Int) (hT100 : T.size ≤ 100000)
 (hbad : D.all isDig = false → P = (zero, 4)) (hlong : D.all isDig = true → 39 < D.length → P = (zero, 3)) (hover : D.all isDig = true → D.length ≤ 39 → ¬ valD D < 170141183460469231731687303715884105728 → P = (zero, 3))
 (hok : D.all isDig = true → D.length ≤ 39 → valD D < 170141183460469231731687303715884105728 → P = (⟨ng, (nw (valD D)).h, (nw (valD D)).l⟩, 0)) : wRet 108 #[.string s] (.tuple #[wv P.1, .int .i64 P.2]) := fun w => by
 have gz0 : IsN (w.alloc (oN zero)) w.heap.size zero := IsN.new w zero
 have hb0 := wbelow1 w (oN zero)
 have hpI : (0 : Int) < (s.size : Int) := by omega
 have hidx : ∀ (j : Nat) (h : j < T.size) (h' : j < D.length), (T[j].toNat : Int) = (D[j].toNat : Int) := by
  intro j h h'
  subst hTD
  simp [byts]
  rfl
 replace hc := Hd hc
 replace hbad := Hd hbad
 replace hlong := Hd hlong
 replace hover := Hd hover
 replace hok := Hd hok
 replace hidx := Hd hidx
 replace hTD := Hd hTD
 replace hDl := Hd hDl
 replace gz0 := Hd gz0
 replace hb0 := Hd hb0
 go_enter Tryz.func108, Tryz.ntmps108
 go_upto_region 2 with fail
 go_cut [5] (fun s5 wx => s5 = .bool ng ∧ IsN wx w.heap.size zero ∧ Below w.heap.size w wx)
 case first =>
  rcases hc.out with ⟨rfl, q1, q2, q3⟩ | ⟨rfl, q1, q2, q3⟩
  all_goals
   clear q2 q3
   go_wp2_with fail
   go_meet
   exact ⟨rfl, gz0.out, hb0.out⟩
 case rest =>
 clear gz0 hb0
 obtain ⟨rfl, gz0, hb0⟩ := hcut
 replace gz0 := Hd gz0
 replace hb0 := Hd hb0
 go_upto_if 22 with fail
 go_cut [4] (fun s4 wx => s4 = .string T ∧ IsN wx w.heap.size zero ∧ Below w.heap.size w wx)
 case first =>
  rcases hc.out with ⟨rfl, q1, q2, q3⟩ | ⟨rfl, q1, q2, q3⟩
  all_goals
   clear q3
   replace q2 := Hd q2
   go_wp2_with fail
   go_meet
   exact ⟨by rw [← q2.out], gz0.out, hb0.out⟩
 case rest =>
 clear gz0 hb0
 obtain ⟨rfl, gz0, hb0⟩ := hcut
 replace gz0 := Hd gz0
 replace hb0 := Hd hb0
 have hne : ((T.size : Int) == 0) = false := beq_eq_false_iff_ne.2 (by omega)
 have hTpI : (0 : Int) < (T.size : Int) := by omega
 go_upto_region 5 with fail
 go_cut [36] (fun s36 wx => s36 = .bool false ∧ IsN wx w.heap.size zero ∧ Below w.heap.size w wx)
 case first =>
  have hq : ((T[0].toNat : Int) == 48) = false ∨ (((T[0].toNat : Int) == 48) = true ∧ (s.toList == [48]) = true) := by
   rcases hc.out with ⟨_, _, _, h⟩ | ⟨_, _, _, h⟩
   ·exact .inl h
   ·exact h
  rcases hq with q1 | ⟨q1, q2⟩
  all_goals
   go_wp2_with fail
   go_meet
   exact ⟨rfl, gz0.out, hb0.out⟩
 case rest =>
 clear gz0 hb0 hc
 obtain ⟨rfl, gz0, hb0⟩ := hcut
 replace gz0 := Hd gz0
 replace hb0 := Hd hb0
 go_wp2_with fail
 go_loopw [6] (fun iv wr => ∃ i : Nat, i ≤ T.size ∧ iv = .int .i64 i ∧ (D.take i).all isDig = true ∧ IsN wr w.heap.size zero ∧ Below w.heap.size w wr) (fun i _ => T.size - (intOf i).toNat)
 case atStart => exact ⟨0, Nat.zero_le _, rfl, rfl, gz0.out, hb0.out⟩
 case round =>
  clear gz0 hb0 hne
  obtain ⟨i, hi, rfl, hpre, gz, hb⟩ := hrel
  by_cases hlt : i < T.size
  ·have hltI : (i : Int) < (T.size : Int) := by omega
   have hiD : i < D.length := by have := hDl.out; omega
   have hstep : D.take (i + 1) = D.take i ++ [D[i]] := List.take_succ_eq_append_getElem hiD
   have hx := hidx.out i hlt hiD
   by_cases hlo : (T[i].toNat : Int) < 48
   ·have hall : D.all isDig = false := by
     rw [List.all_eq_false]
     exact ⟨D[i], List.getElem_mem hiD, by unfold isDig; simp; omega⟩
    clear hstep hx hpre
    have hP := hbad.out hall
    obtain ⟨z0, z1, z2⟩ := gz.all
    have fz := gz.f
    obtain ⟨r0, r1, r2, hfin⟩ := last_set gz ⟨false, 0, 0⟩ hb (Nat.le_refl _)
    dsimp only [zero] at z0 z1 z2 r0 r1 r2 hfin
    replace hfin := Hd hfin
    clear gz hb
    go_wp2_with fail
    (try simp only [Exit.inBlock, Exit.then])
    refine bodyPost_ret (by simp [results, Tryz.results108, go_sem, r0, r1, r2]; try rfl) rfl ?_
    exact ⟨by (try rw [hP]); rfl, hfin.out⟩
   ·by_cases hhi : 57 < (T[i].toNat : Int)
    ·have hall : D.all isDig = false := by
      rw [List.all_eq_false]
      exact ⟨D[i], List.getElem_mem hiD, by unfold isDig; simp; omega⟩
     clear hstep hx hpre
     have hP := hbad.out hall
     obtain ⟨z0, z1, z2⟩ := gz.all
     have fz := gz.f
     obtain ⟨r0, r1, r2, hfin⟩ := last_set gz ⟨false, 0, 0⟩ hb (Nat.le_refl _)
     dsimp only [zero] at z0 z1 z2 r0 r1 r2 hfin
     replace hfin := Hd hfin
     clear gz hb
     go_wp2_with fail
     (try simp only [Exit.inBlock, Exit.then])
     refine bodyPost_ret (by simp [results, Tryz.results108, go_sem, r0, r1, r2]; try rfl) rfl ?_
     exact ⟨by (try rw [hP]); rfl, hfin.out⟩
    ·have hnext : (D.take (i + 1)).all isDig = true := by
      rw [hstep, List.all_append, hpre]
      unfold isDig
      simp
      omega
     clear hstep hx hpre
     replace hnext := Hd hnext
     replace gz := Hd gz
     replace hb := Hd hb
     go_wp2_with fail
     go_roundw
     case rel => exact ⟨i + 1, by omega, by go_num, hnext.out, gz.out, hb.out⟩
     case measure => simp [intOf]; omega
  ·obtain rfl : i = T.size := by omega
   have hall : D.all isDig = true := by rwa [List.take_of_length_le (by have := hDl.out; omega)] at hpre
   clear hpre
   by_cases hL : 39 < T.size
   ·have hP := hlong.out hall (by have := hDl.out; omega)
    obtain ⟨z0, z1, z2⟩ := gz.all
    have fz := gz.f
    obtain ⟨r0, r1, r2, hfin⟩ := last_set gz ⟨false, 0, 0⟩ hb (Nat.le_refl _)
    dsimp only [zero] at z0 z1 z2 r0 r1 r2 hfin
    replace hfin := Hd hfin
    clear gz hb
    go_wp2_with fail
    (try simp only [Exit.inBlock, Exit.then])
    refine bodyPost_ret (by simp [results, Tryz.results108, go_sem, r0, r1, r2]; try rfl) rfl ?_
    exact ⟨by (try rw [hP]); rfl, hfin.out⟩
   ·have hover' := hover.out hall (by have := hDl.out; omega)
    have hok' := hok.out hall (by have := hDl.out; omega)
    replace hover' := Hd hover'
    replace hok' := Hd hok'
    clear hbad hlong hover hok
    have q1 := gz.lt
    have gx0 : IsN (wr.alloc (oN zero)) wr.heap.size zero := IsN.new wr zero
    replace gz := Hd (gz.alloc (oN zero))
    replace hb := Hd (hb.alloc hb.size (oN zero))
    replace gx0 := Hd gx0
    replace hall := Hd hall
    go_wp2_with fail
    obtain ⟨wo, rfl⟩ : ∃ wo : World, wo = wr := ⟨_, rfl⟩
    go_loopw [8] (fun iv wi => ∃ j : Nat, j ≤ T.size ∧ iv = .int .i64 j ∧ valD (D.take j) < 170141183460469231731687303715884105728 ∧ IsN wi wo.heap.size (nw (valD (D.take j))) ∧ IsN wi w.heap.size zero ∧ Below w.heap.size w wi) (fun i _ => T.size - (intOf i).toNat)
    case atStart => exact ⟨0, Nat.zero_le _, rfl, by rw [show valD (D.take 0) = 0 from rfl]; decide, by rw [show valD (D.take 0) = 0 from rfl]; exact gx0.out, gz.out, hb.out⟩
    case round =>
     clear gx0 gz hb
     obtain ⟨j, hj, rfl, hv, gx, gz, hb⟩ := hrel
     by_cases hjn : j < T.size
     ·have hjD : j < D.length := by have := hDl.out; omega
      have hnext := valD_next D j hjD
      have hmono := Hd (valD_take D (j + 1))
      have hdig : isDig D[j] = true := List.all_eq_true.1 hall.out _ (List.getElem_mem hjD)
      have hK0 : 48 ≤ D[j].toNat ∧ D[j].toNat ≤ 57 := by unfold isDig at hdig; simpa using hdig
      have hx := hidx.out j hjn hjD
      obtain ⟨dg, hdg⟩ : ∃ dg : Nat, D[j].toNat - 48 = dg := ⟨_, rfl⟩
      obtain ⟨K, hK⟩ : ∃ K : Int, (T[j].toNat : Int) = K := ⟨_, rfl⟩
      have hwr : IntKind.u64.wrap (IntKind.u8.wrap (K - 48)) = (dg : Int) := by
       rw [show K - 48 = (dg : Int) by omega, IntWalk.u8_in _ (by omega)]
       exact IntWalk.u64_in _ (by omega)
      have hdg9 : dg ≤ 9 := by omega
      rw [hdg] at hnext
      clear hdig hK0 hx hdg
      generalize hve : valD (D.take j) = v at *
      clear hve
      have cM := refMul_c (nw v) (nw 10) (nw_ok (Nat.lt_trans hv (by decide))) (nw_ok (by decide))
      rw [mulN hv (by decide), show nw 10 = ⟨false, 0, 10⟩ from rfl] at cM
      replace hnext := Hd hnext
      obtain ⟨Y, hY⟩ : ∃ Y, RN (v * 10) = Y := ⟨_, rfl⟩
      have hYok : Y.1.Ok := by
       rw [← hY]
       unfold RN
       split
       ·exact nw_ok (Nat.lt_trans (by assumption) (by decide))
       ·unfold zero WI.Ok
        dsimp only
        omega
      rw [hY] at cM
      have cA := refAdd_c Y.1 (nw dg) hYok (nw_ok (by omega))
      rw [← ofWord_nw dg (by omega), ← hwr] at cA
      have hY1 : v * 10 < 170141183460469231731687303715884105728 → Y = (nw (v * 10), 0) := fun h => by rw [← hY]; exact if_pos h
      have hY2 : ¬ v * 10 < 170141183460469231731687303715884105728 → Y = (zero, 3) := fun h => by rw [← hY]; exact if_neg h
      obtain ⟨Z, hZ⟩ : ∃ Z, addF Y.1 ⟨false, 0, IntKind.u64.wrap (IntKind.u8.wrap (K - 48))⟩ = Z := ⟨_, rfl⟩
      have hZ1 : v * 10 < 170141183460469231731687303715884105728 → Z = RN (v * 10 + dg) := fun h => by
       rw [← hZ, hwr, ofWord_nw dg (by omega), hY1 h]
       exact addN h (by omega)
      rw [hZ] at cA
      generalize nw v = V at *
      clear hv hwr hY hZ hYok
      replace hY1 := Hd hY1
      replace hY2 := Hd hY2
      replace hZ1 := Hd hZ1
      obtain ⟨⟨Yn, Yh, Yl⟩, pe⟩ := Y
      obtain ⟨⟨Zn, Zh, Zl⟩, qe⟩ := Z
      obtain ⟨Vn, Vh, Vl⟩ := V
      obtain ⟨c0, c1, c2⟩ := gx.all
      (try unfold zero at cM cA)
      unfold wv at cM cA
      dsimp only at cM cA c0 c1 c2
      replace cM := Hd cM
      replace cA := Hd cA
      replace gx := Hd gx
      replace gz := Hd gz
      replace hb := Hd hb
      go_wp2_with fail
      refine (cM.out.on _).mono ?_
      rintro e w5 ⟨rfl, hbr⟩
      clear c0 c1 c2
      have q5 := (gx.out.below hbr).lt
      have gy := Hd (show IsN (w5.alloc (oN ⟨Yn, Yh, Yl⟩)) w5.heap.size ⟨Yn, Yh, Yl⟩ from IsN.new w5 ⟨Yn, Yh, Yl⟩)
      replace gx := Hd ((gx.out.below hbr).alloc (oN ⟨Yn, Yh, Yl⟩))
      replace gz := Hd ((gz.out.below hbr).alloc (oN ⟨Yn, Yh, Yl⟩))
      replace hb := Hd (wbelow_drewed ((wbelow_up hb.out hb.out.size hbr).alloc (by have := hb.out.size; have := hbr.size; omega) (oN ⟨Yn, Yh, Yl⟩)))
      clear hbr
      have hs := hb.out.size
      obtain ⟨y0, y1, y2⟩ := gy.out.all
      dsimp only at y0 y1 y2
      go_upto_region 19 with fail
      go_cut [11, 12] (fun s11 s12 wx => ∃ yb, s11 = .pointer (some ⟨yb, 0, none⟩) ∧ s12 = .int .i64 qe ∧ IsN wx yb ⟨Zn, Zh, Zl⟩ ∧ IsN wx wo.heap.size ⟨Vn, Vh, Vl⟩ ∧ IsN wx w.heap.size zero ∧ Below w.heap.size w wx)
      case first =>
       refine wp_region_held_at (S := fun w1 => w1.cell? ⟨w5.heap.size, 0, none⟩ = some (.bool Yn) ∧ w1.cell? ⟨w5.heap.size, 1, none⟩ = some (.int .u64 Yh) ∧ w1.cell? ⟨w5.heap.size, 2, none⟩ = some (.int .u64 Yl)) 14 rfl (by kernel_rfl) (by go_keep) (fun hH => ?_)
       refine wpU 0 ?_ rfl ?_ ?_
       rotate_left
       ·intro u h; (try simp only [ls3]); go_simp; try with_reducible rfl
       try simp only [ls7, Act.put]
       refine wpU 1 ?_ rfl ?_ ?_
       rotate_left
       ·intro u h; (try simp only [ls3]); go_simp; try with_reducible rfl
       try simp only [ls7, Act.put]
       refine wpU 2 ?_ rfl ?_ ?_
       rotate_left
       ·intro u h; (try simp only [ls3]); go_simp; try with_reducible rfl
       try simp only [ls7, Act.put]
       refine wpU 3 ?_ rfl ?_ ?_
       rotate_left
       ·intro u h; (try simp only [ls3]); go_simp; try with_reducible rfl
       try simp only [ls7, Act.put]
       refine wpU 4 ?_ rfl ?_ ?_
       rotate_left
       ·intro u h; (try simp only [ls3]); go_simp; try with_reducible rfl
       try simp only [ls7, Act.put]
       refine wpU 5 ?_ rfl ?_ ?_
       rotate_left
       ·intro u h; (try simp only [ls3]); go_simp; try with_reducible rfl
       try simp only [ls7, Act.put]
       refine wpU 6 ?_ rfl ?_ ?_
       rotate_left
       ·intro u h; (try simp only [ls3]); go_simp; try with_reducible rfl
       try simp only [ls7, Act.put]
       refine wpAnyH_ready (rs := [7, 11]) (by decide +kernel) (by simp) ?_
       refine AllReadyH.cons rfl (fun K hK => ?_) (AllReadyH.cons rfl (fun K hK => ?_) AllReadyH.nil)
       ·(try simp only [ls3])
        go_simp
        refine (cA.out.on _).mono ?_
        rintro e w6 ⟨rfl, hbr⟩
        have gy2 := Hd (isN_of hbr gy.out)
        have gx2 := Hd (isN_of hbr gx.out)
        have gz2 := Hd (isN_of hbr gz.out)
        have hb2 := Hd (wbelow_up hb.out hb.out.size hbr)
        clear hH hb hs hbr y0 y1 y2 gy gx gz
        have hs := hb2.out.size
        obtain ⟨y0, y1, y2⟩ := gy2.out.all
        dsimp only at y0 y1 y2
        go_simp
        refine hK.out _ _ (by go_keep) (fun hH => ?_)
        clear hK K
        try simp only [ls7, Act.put]
        refine wpU 8 ?_ rfl ?_ ?_
        rotate_left
        ·intro u h; (try simp only [ls3]); go_simp; try with_reducible rfl
        try simp only [ls7, Act.put]
        refine wpU 9 ?_ rfl ?_ ?_
        rotate_left
        ·intro u h; (try simp only [ls3]); go_simp; try with_reducible rfl
        try simp only [ls7, Act.put]
        refine wpU 10 ?_ rfl ?_ ?_
        rotate_left
        ·intro u h; (try simp only [ls3]); go_simp; try with_reducible rfl
        try simp only [ls7, Act.put]
        clear y0 y1 y2
        have gt := Hd (show IsN (w6.alloc (oN ⟨false, 0, 0⟩)) w6.heap.size ⟨false, 0, 0⟩ from IsN.new w6 ⟨false, 0, 0⟩)
        obtain ⟨y0, y1, y2⟩ := (gy2.out.alloc (oN ⟨false, 0, 0⟩)).all
        dsimp only at y0 y1 y2
        refine wpAnyH_ready (rs := [11]) (by decide +kernel) (by simp) ?_
        refine AllReadyH.cons rfl (fun K hK => ?_) AllReadyH.nil
        (try simp only [ls3])
        go_simp
        clear hH
        refine hK.out _ _ (by go_keep) (fun hH => ?_)
        clear hK K
        try simp only [ls7, Act.put]
        clear y0 y1 y2
        obtain ⟨y0, y1, y2⟩ := (gy2.out.alloc (oN ⟨Zn, Zh, Zl⟩)).all
        dsimp only at y0 y1 y2
        refine wpAnyH_ready (rs := [12]) (by decide +kernel) (by simp) ?_
        refine AllReadyH.cons rfl (fun K hK => ?_) AllReadyH.nil
        (try simp only [ls3])
        go_simp
        clear hH
        refine hK.out _ _ (by go_keep) (fun hH => ?_)
        clear hK K
        try simp only [ls7, Act.put]
        refine wpU 13 ?_ rfl ?_ ?_
        rotate_left
        ·intro u h; (try simp only [ls3]); go_simp; try with_reducible rfl
        try simp only [ls7, Act.put]
        refine wpAnyH_done (by decide +kernel) ?_ _
        clear hH y0 y1 y2
        have gt' := Hd (show IsN (w6.alloc (oN ⟨Zn, Zh, Zl⟩)) w6.heap.size ⟨Zn, Zh, Zl⟩ from IsN.new w6 ⟨Zn, Zh, Zl⟩)
        have gx := Hd (gx2.out.alloc (oN ⟨Zn, Zh, Zl⟩))
        have gz := Hd (gz2.out.alloc (oN ⟨Zn, Zh, Zl⟩))
        have hb := Hd (hb2.out.alloc hs (oN ⟨Zn, Zh, Zl⟩))
        clear gt gy2 gx2 gz2 hb2 hs
        go_wp2_with fail
        go_meet
        exact ⟨_, rfl, rfl, gt'.out, gx.out, gz.out, hb.out⟩
       ·(try simp only [ls3])
        have gt := Hd (show IsN (((w5.alloc (oN ⟨Yn, Yh, Yl⟩)).drew).alloc (oN ⟨false, 0, 0⟩)) (w5.heap.size + 1) ⟨false, 0, 0⟩ from by have := IsN.new ((w5.alloc (oN ⟨Yn, Yh, Yl⟩)).drew) ⟨false, 0, 0⟩; rwa [show ((w5.alloc (oN ⟨Yn, Yh, Yl⟩)).drew).heap.size = w5.heap.size + 1 from wsize_alloc w5 _] at this)
        have gy' := Hd (IsN.alloc (w := (w5.alloc (oN ⟨Yn, Yh, Yl⟩)).drew) gy.out (oN ⟨false, 0, 0⟩))
        have gx' := Hd (IsN.alloc (w := (w5.alloc (oN ⟨Yn, Yh, Yl⟩)).drew) gx.out (oN ⟨false, 0, 0⟩))
        have gz' := Hd (IsN.alloc (w := (w5.alloc (oN ⟨Yn, Yh, Yl⟩)).drew) gz.out (oN ⟨false, 0, 0⟩))
        have hb' := Hd (hb.out.alloc hs (oN ⟨false, 0, 0⟩))
        clear y0 y1 y2 hb hs gy gx gz
        have gy := gy'
        have gx := gx'
        have gz := gz'
        have hb := hb'
        clear gy' gx' gz' hb'
        have hs := hb.out.size
        obtain ⟨y0, y1, y2⟩ := gy.out.all
        dsimp only at y0 y1 y2
        go_simp
        refine hK.out _ _ (by go_keep) (fun hH => ?_)
        clear hK K
        try simp only [ls7, Act.put]
        refine wpAnyH_ready (rs := [7]) (by decide +kernel) (by simp) ?_
        refine AllReadyH.cons rfl (fun K hK => ?_) AllReadyH.nil
        (try simp only [ls3])
        go_simp
        refine (cA.out.on _).mono ?_
        rintro e w6 ⟨rfl, hbr⟩
        have gy2 := Hd (isN_of hbr gy.out)
        have gx2 := Hd (isN_of hbr gx.out)
        have gz2 := Hd (isN_of hbr gz.out)
        have hb2 := Hd (wbelow_up hb.out hb.out.size hbr)
        have gt2 := Hd (isN_of hbr gt.out)
        clear hH hb hs hbr y0 y1 y2 gy gx gz
        have hs := hb2.out.size
        obtain ⟨y0, y1, y2⟩ := gy2.out.all
        dsimp only at y0 y1 y2
        go_simp
        clear gt
        refine hK.out _ _ (by go_keep) (fun hH => ?_)
        clear hK K
        try simp only [ls7, Act.put]
        refine wpU 8 ?_ rfl ?_ ?_
        rotate_left
        ·intro u h; (try simp only [ls3]); go_simp; try with_reducible rfl
        try simp only [ls7, Act.put]
        refine wpU 9 ?_ rfl ?_ ?_
        rotate_left
        ·intro u h; (try simp only [ls3]); go_simp; try with_reducible rfl
        try simp only [ls7, Act.put]
        refine wpU 10 ?_ rfl ?_ ?_
        rotate_left
        ·intro u h; (try simp only [ls3]); go_simp; try with_reducible rfl
        try simp only [ls7, Act.put]
        obtain ⟨t0, t1, t2⟩ := gt2.out.all
        have ft := gt2.out.f
        dsimp only at t0 t1 t2
        clear y0 y1 y2
        obtain ⟨y0, y1, y2⟩ := (gy2.out.set3_other (c := w5.heap.size + 1) (v0 := .bool Zn) (v1 := .int .u64 Zh) (v2 := .int .u64 Zl) (by omega)).all
        dsimp only at y0 y1 y2
        refine wpAnyH_ready (rs := [12]) (by decide +kernel) (by simp) ?_
        refine AllReadyH.cons rfl (fun K hK => ?_) AllReadyH.nil
        (try simp only [ls3])
        go_simp
        clear hH
        refine hK.out _ _ (by go_keep) (fun hH => ?_)
        clear hK K
        try simp only [ls7, Act.put]
        refine wpU 13 ?_ rfl ?_ ?_
        rotate_left
        ·intro u h; (try simp only [ls3]); go_simp; try with_reducible rfl
        try simp only [ls7, Act.put]
        refine wpAnyH_done (by decide +kernel) ?_ _
        clear hH y0 y1 y2 t0 t1 t2 ft
        have gt' := Hd (gt2.out.set Zn Zh Zl)
        have gx := Hd (gx2.out.set3_other (c := w5.heap.size + 1) (v0 := .bool Zn) (v1 := .int .u64 Zh) (v2 := .int .u64 Zl) (by omega))
        have gz := Hd (gz2.out.set3_other (c := w5.heap.size + 1) (v0 := .bool Zn) (v1 := .int .u64 Zh) (v2 := .int .u64 Zl) (by omega))
        have hb := Hd (below_set3 hb2.out (show w.heap.size ≤ w5.heap.size + 1 by omega) (.bool Zn) (.int .u64 Zh) (.int .u64 Zl))
        clear gt2 gy2 gx2 gz2 hb2 hs
        go_wp2_with fail
        go_meet
        exact ⟨_, rfl, rfl, gt'.out, gx.out, gz.out, hb.out⟩
      case rest =>
       clear gx gz hb gy cA y0 y1 y2 hs
       obtain ⟨yb, rfl, rfl, gy, gx, gz, hb⟩ := hcut
       have hgoon : (pe = 0 ∧ qe = 0 ∧ valD (D.take (j + 1)) < 170141183460469231731687303715884105728 ∧ (⟨Zn, Zh, Zl⟩ : WI) = nw (valD (D.take (j + 1)))) ∨ (((pe != 0) = true ∨ ((pe != 0) = false ∧ (qe != 0) = true)) ∧ ¬ valD (D.take (j + 1)) < 170141183460469231731687303715884105728) := by
        rw [hnext.out]
        by_cases hm : v * 10 < 170141183460469231731687303715884105728
        ·have e1 := hY1.out hm
         have e2 := hZ1.out hm
         rw [Prod.mk.injEq] at e1
         by_cases ha : v * 10 + dg < 170141183460469231731687303715884105728
         ·rw [show RN (v * 10 + dg) = (nw (v * 10 + dg), 0) from if_pos ha, Prod.mk.injEq] at e2
          exact .inl ⟨e1.2, e2.2, ha, e2.1⟩
         ·rw [show RN (v * 10 + dg) = (zero, 3) from if_neg ha, Prod.mk.injEq] at e2
          exact .inr ⟨.inr ⟨by rw [e1.2]; rfl, by rw [e2.2]; rfl⟩, ha⟩
        ·have e1 := hY2.out hm
         rw [Prod.mk.injEq] at e1
         exact .inr ⟨.inl (by rw [e1.2]; rfl), by omega⟩
       clear hY1 hY2 hZ1
       rcases hgoon with ⟨rfl, rfl, ha, hZ⟩ | ⟨he, hbig⟩
       ·obtain ⟨t0, t1, t2⟩ := gy.all
        obtain ⟨c0, c1, c2⟩ := gx.all
        have fx := gx.f
        dsimp only at t0 t1 t2 c0 c1 c2
        have hne1 : w.heap.size ≠ wo.heap.size := by omega
        have gxF := Hd (gx.set Zn Zh Zl)
        have gzF := Hd (gz.set3_other (c := wo.heap.size) (v0 := .bool Zn) (v1 := .int .u64 Zh) (v2 := .int .u64 Zl) hne1)
        have hbF := Hd (below_set3 hb (show w.heap.size ≤ wo.heap.size by omega) (.bool Zn) (.int .u64 Zh) (.int .u64 Zl))
        replace ha := Hd ha
        replace hZ := Hd hZ
        clear gy gx gz hb hnext
        go_wp2_with fail
        go_roundw
        case rel => exact ⟨j + 1, by omega, by go_num, ha.out, by rw [← hZ.out]; exact gxF.out, gzF.out, hbF.out⟩
        case measure => simp [intOf]; omega
       ·have hP := hover'.out (fun hh => hbig (by have := hmono.out; omega))
        clear gy gx hnext hbig
        rcases he with he | ⟨he, he2⟩
        ·obtain ⟨z0, z1, z2⟩ := gz.all
         have fz := gz.f
         obtain ⟨r0, r1, r2, hfin⟩ := last_set gz ⟨false, 0, 0⟩ hb (Nat.le_refl _)
         dsimp only [zero] at z0 z1 z2 r0 r1 r2 hfin
         replace hfin := Hd hfin
         clear gz hb
         go_wp2_with fail
         (try simp only [Exit.inBlock, Exit.then])
         refine bodyPost_ret (by simp [results, Tryz.results108, go_sem, r0, r1, r2]; try rfl) rfl ?_
         exact ⟨by (try rw [hP]); rfl, hfin.out⟩
        ·obtain ⟨z0, z1, z2⟩ := gz.all
         have fz := gz.f
         obtain ⟨r0, r1, r2, hfin⟩ := last_set gz ⟨false, 0, 0⟩ hb (Nat.le_refl _)
         dsimp only [zero] at z0 z1 z2 r0 r1 r2 hfin
         replace hfin := Hd hfin
         clear gz hb
         go_wp2_with fail
         (try simp only [Exit.inBlock, Exit.then])
         refine bodyPost_ret (by simp [results, Tryz.results108, go_sem, r0, r1, r2]; try rfl) rfl ?_
         exact ⟨by (try rw [hP]); rfl, hfin.out⟩
     ·obtain rfl : j = T.size := by omega
      rw [List.take_of_length_le (show D.length ≤ T.size by have := hDl.out; omega)] at hv gx
      have hP := hok'.out hv
      clear hv
      obtain ⟨c0, c1, c2⟩ := gx.all
      have fx := gx.f
      have gx1 := gx.set0 ng
      have q2 : w.heap.size ≠ wo.heap.size := by omega
      have gz1 := gz.set_other (c := wo.heap.size) (i := 0) (v := .bool ng) (by omega)
      have hb1 := hb.setCell (show w.heap.size ≤ (⟨wo.heap.size, 0, none⟩ : Addr).block by show w.heap.size ≤ wo.heap.size; omega) (.bool ng)
      obtain ⟨x0, x1, x2⟩ := gx1.all
      obtain ⟨z0, z1, z2⟩ := gz1.all
      have fz := gz1.f
      obtain ⟨r0, r1, r2, hfin⟩ := last_set gz1 ⟨ng, (nw (valD D)).h, (nw (valD D)).l⟩ hb1 (Nat.le_refl _)
      dsimp only [zero] at c0 c1 c2 x0 x1 x2 z0 z1 z2 r0 r1 r2 hfin
      generalize (nw (valD D)).n = Xn at *
      generalize (nw (valD D)).h = Xh at *
      generalize (nw (valD D)).l = Xl at *
      replace hfin := Hd hfin
      clear gz hb gx gx1 gz1 hb1
      go_wp2_with fail
      (try simp only [Exit.inBlock, Exit.then])
      refine bodyPost_ret (by simp [results, Tryz.results108, go_sem, r0, r1, r2]; try rfl) rfl ?_
      exact ⟨by (try rw [hP]); rfl, hfin.out⟩
end Go.Proofs.YtjjgbillihedgaaGreatDoor
