/- parts of the proof, merged: WvE1 -/
import Derived.Deep.DeepCutAuto
import Derived.Test.YtjjgbillihedgaaGreatDoorQb8
set_option maxHeartbeats 16000000
set_option maxRecDepth 10000
namespace Go.Proofs.YtjjgbillihedgaaGreatDoor
open Go.RowKit
open Rf
open Wide
attribute [local go_sem ↓] Go.wp_at_zero Go.wp_at_succ
theorem below_dW {w w' : World} {k : Nat} (h : Below (w.drewN k).heap.size (w.drewN k) w') : Below w.heap.size w w' := (show Below w.heap.size w (w.drewN k) from ⟨rfl, rfl, rfl, Nat.le_refl _, fun _ _ => rfl⟩).trans h
theorem parse_ok (s : ByteArray) (D : List UInt8) (T : ByteArray) (ng : Bool) (hT : byts T = D) (hd : D.all isDig = true) (hl0 : 0 < T.size) (hl : T.size ≤ 39)
 (ct : ∀ w, Calls Tryz.prog 148 #[.string s, .string ⟨#[45]⟩] w fun e w' => e = .returned (.string T) ∧ w' = w)
 (ci : ∀ w, Calls Tryz.prog 149 #[.string T] w fun e w' => e = .returned (.bool true) ∧ Below w.heap.size w w')
 (hng : decide (T.size < s.size) = ng)
 (h0 : ((T[0].toNat : Int) = 48 ∧ (!s.toList == [48]) = false) ∨ ((T[0].toNat : Int) == 48) = false) (r : WI) (ec : Int) (hr1 : valD D < 170141183460469231731687303715884105728 → r = mk (neg ng (valD D)) ∧ ec = 0)
 (hr2 : ¬ valD D < 170141183460469231731687303715884105728 → r = zero ∧ ec = 3) (w : World) :
 Calls Tryz.prog 129 #[.string s] w fun e w' => e = .returned (.tuple #[wv r, .int .i64 ec]) ∧ Below w.heap.size w w' := by
 have hDl : D.length = T.size := by rw [← hT, byts_length]
 have hidx : ∀ (j : Nat) (h : j < T.size) (h' : j < D.length), T[j] = D[j] := by
  intro j h h'
  subst hT
  simp [byts]
  rfl
 replace ct := Hd ct
 replace ci := Hd ci
 replace hT := Hd hT
 replace hr1 := Hd hr1
 replace hr2 := Hd hr2
 have c10 := Hd (ofWord_c 10)
 replace hidx := Hd hidx
 replace h0 := Hd h0
 go_enter Tryz.func129, Tryz.ntmps129
 go_wp2_with fail
 refine (ct.out _).mono ?_
 rintro e w1 ⟨rfl, rfl⟩
 go_upto_region 3 with fail
 go_cut [27] (fun c wx => c = .bool false ∧ IsN wx w.heap.size zero ∧ Below w.heap.size w wx)
 case first =>
  go_wp2_with fail
  refine (ci.out _).mono ?_
  rintro e w2 ⟨rfl, hb2⟩
  obtain ⟨gz, hb⟩ := one_new (x := zero) hb2
  clear hb2
  replace gz := Hd gz
  replace hb := Hd hb
  rcases h0.out with ⟨h0, h48⟩ | h48
  all_goals
   go_wp2_with fail
   go_meet
   exact ⟨rfl, gz.out, hb.out⟩
 case rest =>
  obtain ⟨rfl, gz, hb⟩ := hcut
  clear h0 ct ci
  have hbx := hb.size
  obtain ⟨xb, hxb⟩ : ∃ b, wc.heap.size = b := ⟨_, rfl⟩
  rw [hxb] at hbx
  have hbne : w.heap.size ≠ xb := by have := gz.lt; omega
  replace gz := Hd gz
  replace hb := Hd hb
  go_wp2_with fail
  (try rw [hxb])
  go_loopw [35] (fun i wr => ∃ j : Nat, j ≤ T.size ∧ i = .int .i64 j ∧ valD (D.take j) < 170141183460469231731687303715884105728 ∧ IsN wr xb (nw (valD (D.take j))) ∧ IsN wr w.heap.size zero ∧ Below w.heap.size w wr) (fun i _ => T.size - (intOf i).toNat)
  case atStart =>
   have e0 : valD (D.take 0) = 0 := rfl
   rw [show (0 : Int) = ((0 : Nat) : Int) from rfl]
   exact ⟨0, Nat.zero_le _, rfl, by rw [e0]; decide, by rw [e0, ← hxb]; exact IsN.new wc zero, gz.out.alloc _, hb.out.alloc hb.out.size _⟩
  case round =>
   obtain ⟨j, hj, rfl, hv, gx, gz', hbr⟩ := hrel
   have hszr := hbr.size
   clear gz hb hxb
   have gz := gz'
   clear gz'
   by_cases hjn : j < T.size
   ·have hjD : j < D.length := by omega
    have hnext := Hd (valD_next D j hjD)
    have hmono := Hd (valD_take D (j + 1))
    have hdig : isDig D[j] = true := List.all_eq_true.1 hd _ (List.getElem_mem hjD)
    have hK0 : 48 ≤ D[j].toNat ∧ D[j].toNat ≤ 57 := by unfold isDig at hdig; simpa using hdig
    obtain ⟨K, hK⟩ : ∃ K : Int, (T[j].toNat : Int) = K := ⟨_, rfl⟩
    have hKD : K = D[j].toNat := by rw [← hK, hidx.out j hjn hjD]
    obtain ⟨dg, hdg⟩ : ∃ dg : Nat, D[j].toNat - 48 = dg := ⟨_, rfl⟩
    have hKb : 48 ≤ K ∧ K ≤ 57 := by omega
    have hdg9 : dg ≤ 9 := by omega
    have hKdg : K - 48 = (dg : Int) := by omega
    have cK := ofWord_c (K - 48)
    rw [show (⟨false, 0, K - 48⟩ : WI) = nw dg from by rw [hKdg]; exact ofWord_nw dg (by omega)] at cK
    have hwr : IntKind.u64.wrap (IntKind.u8.wrap (K - 48)) = K - 48 := by simp [IntKind.wrap, IntKind.bits, IntKind.signed]; omega
    rw [← hwr] at cK
    clear hwr
    rw [hdg] at hnext
    clear hdig hK0 hKD hdg hKdg
    generalize hve : valD (D.take j) = v at *
    clear hve
    have cm := mul_c (nw v) (nw 10) (nw_ok (Nat.lt_trans hv (by decide))) (nw_ok (by decide))
    rw [mulN hv (by decide), show nw 10 = ⟨false, 0, 10⟩ from rfl] at cm
    have ca := fun hm : v * 10 < 170141183460469231731687303715884105728 => add_c (nw (v * 10)) (nw dg) (nw_ok (Nat.lt_trans hm (by decide))) (nw_ok (by omega))
    obtain ⟨G, hG⟩ : ∃ G, nw dg = G := ⟨_, rfl⟩
    obtain ⟨V, hV⟩ : ∃ V, nw v = V := ⟨_, rfl⟩
    obtain ⟨P, hP⟩ : ∃ P, RN (v * 10) = P := ⟨_, rfl⟩
    obtain ⟨Q, hQ⟩ : ∃ Q, addF (nw (v * 10)) (nw dg) = Q := ⟨_, rfl⟩
    have hP1 : v * 10 < 170141183460469231731687303715884105728 → P = (nw (v * 10), 0) := fun h => by rw [← hP]; exact if_pos h
    have hP2 : ¬ v * 10 < 170141183460469231731687303715884105728 → P = (zero, 3) := fun h => by rw [← hP]; exact if_neg h
    have hQ1 : v * 10 < 170141183460469231731687303715884105728 → v * 10 + dg < 170141183460469231731687303715884105728 → Q = (nw (v * 10 + dg), 0) := fun h1 h => by rw [← hQ, addN h1 (by omega)]; exact if_pos h
    have hQ2 : v * 10 < 170141183460469231731687303715884105728 → ¬ v * 10 + dg < 170141183460469231731687303715884105728 → Q = (zero, 3) := fun h1 h => by rw [← hQ, addN h1 (by omega)]; exact if_neg h
    rw [hG] at cK
    rw [hV] at gx cm
    rw [hP] at cm
    rw [hQ, hG] at ca
    rw [← hnext.out] at hQ1 hQ2
    clear hP hQ hV hG hv
    obtain ⟨Gn, Gh, Gl⟩ := G
    obtain ⟨⟨Pn, Ph, Pl⟩, pe⟩ := P
    obtain ⟨⟨Qn, Qh, Ql⟩, qe⟩ := Q
    obtain ⟨Vn, Vh, Vl⟩ := V
    obtain ⟨x0, x1, x2⟩ := gx.all
    unfold wv at *
    dsimp only at *
    replace gx := Hd gx
    replace gz := Hd gz
    replace hbr := Hd hbr
    replace cm := Hd cm
    replace ca := Hd ca
    replace cK := Hd cK
    replace hd := Hd hd
    replace hP1 := Hd hP1
    replace hP2 := Hd hP2
    replace hQ1 := Hd hQ1
    replace hQ2 := Hd hQ2
    go_upto_region 12 with fail
    go_cut [8] (fun s8 wx => s8 = .int .i64 pe ∧ IsN wx xb ⟨Pn, Ph, Pl⟩ ∧ IsN wx w.heap.size zero ∧ Below w.heap.size w wx)
    case first =>
     go_region_with (first
      |(go_at_call 49
        refine (c10.out _).mono ?_
        rintro e w5 ⟨rfl, hb5⟩
        have gx5 := Hd (gx.out.below (below_dW hb5))
        have gz5 := Hd (gz.out.below (below_dW hb5))
        have hb6 := Hd (hbr.out.trans ((below_dW hb5).mono hszr))
        clear x0 x1 x2 hb5
        obtain ⟨x0, x1, x2⟩ := gx5.out.all
        dsimp only at x0 x1 x2)
      |(go_at_call 150
        refine (cm.out _).mono ?_
        rintro e w7 ⟨rfl, hb7⟩
        replace hb7 : Below w5.heap.size w5 w7 := by first | exact hb7 | exact below_dW hb7
        have gx7 := gx5.out.below hb7
        have gz7 := gz5.out.below hb7
        have hb8 := hb6.out.trans (hb7.mono hb6.out.size)
        clear x0 x1 x2
        obtain ⟨x0, x1, x2⟩ := gx7.all
        have xf := gx7.f
        have gx8 := Hd (gx7.set Pn Ph Pl)
        have gz8 := Hd (gz7.set3_other (c := xb) (v0 := .bool Pn) (v1 := .int .u64 Ph) (v2 := .int .u64 Pl) hbne)
        have hb9 := Hd (below_set3 hb8 (b := xb) hbx (.bool Pn) (.int .u64 Ph) (.int .u64 Pl))
        dsimp only at x0 x1 x2
        clear gx7 gz7 hb8 hb7))
     all_goals
      go_wp2_with fail
      go_meet
      exact ⟨rfl, gx8.out, gz8.out, hb9.out⟩
    case rest =>
     clear gx gz hbr hszr x0 x1 x2
     obtain ⟨rfl, gx, gz, hbr⟩ := hcut
     have hszr := hbr.size
     obtain ⟨x0, x1, x2⟩ := gx.all
     dsimp only at x0 x1 x2
     replace gx := Hd gx
     replace gz := Hd gz
     replace hbr := Hd hbr
     by_cases hm : v * 10 < 170141183460469231731687303715884105728
     ·have e1 := hP1.out hm
      rw [Prod.mk.injEq] at e1
      obtain ⟨e2, rfl⟩ := e1
      have ca := ca.out hm
      have hQ1 := hQ1.out hm
      have hQ2 := hQ2.out hm
      rw [← e2] at ca
      replace ca := Hd ca
      replace hQ1 := Hd hQ1
      replace hQ2 := Hd hQ2
      clear e2 hm
      go_upto_region 14 with fail
      go_cut [8] (fun s8 wx => s8 = .int .i64 qe ∧ IsN wx xb ⟨Qn, Qh, Ql⟩ ∧ IsN wx w.heap.size zero ∧ Below w.heap.size w wx)
      case first =>
       go_region_with (first
        |(go_at_call 49
          refine (cK.out _).mono ?_
          rintro e w5 ⟨rfl, hb5⟩
          have gx5 := Hd (gx.out.below (below_dW hb5))
          have gz5 := Hd (gz.out.below (below_dW hb5))
          have hb6 := Hd (hbr.out.trans ((below_dW hb5).mono hszr))
          clear x0 x1 x2 hb5
          obtain ⟨x0, x1, x2⟩ := gx5.out.all
          dsimp only at x0 x1 x2)
        |(go_at_call 151
          refine (ca.out _).mono ?_
          rintro e w7 ⟨rfl, hb7⟩
          replace hb7 : Below w5.heap.size w5 w7 := by first | exact hb7 | exact below_dW hb7
          have gx7 := gx5.out.below hb7
          have gz7 := gz5.out.below hb7
          have hb8 := hb6.out.trans (hb7.mono hb6.out.size)
          clear x0 x1 x2
          obtain ⟨x0, x1, x2⟩ := gx7.all
          have xf := gx7.f
          have gx8 := Hd (gx7.set Qn Qh Ql)
          have gz8 := Hd (gz7.set3_other (c := xb) (v0 := .bool Qn) (v1 := .int .u64 Qh) (v2 := .int .u64 Ql) hbne)
          have hb9 := Hd (below_set3 hb8 (b := xb) hbx (.bool Qn) (.int .u64 Qh) (.int .u64 Ql))
          dsimp only at x0 x1 x2
          clear gx7 gz7 hb8 hb7))
       all_goals
        go_wp2_with fail
        go_meet
        exact ⟨rfl, gx8.out, gz8.out, hb9.out⟩
      case rest =>
       clear gx gz hbr hszr x0 x1 x2
       obtain ⟨rfl, gx, gz, hbr⟩ := hcut
       replace gx := Hd gx
       replace gz := Hd gz
       replace hbr := Hd hbr
       by_cases ha : valD (D.take (j + 1)) < 170141183460469231731687303715884105728
       ·have e1 := hQ1.out ha
        rw [Prod.mk.injEq] at e1
        obtain ⟨e2, rfl⟩ := e1
        replace ha := Hd ha
        replace e2 := Hd e2
        go_wp2_with fail
        go_roundw
        case rel => exact ⟨j + 1, hjn, by go_num, ha.out, by rw [← e2.out]; exact gx.out, gz.out, hbr.out⟩
        case measure => simp [intOf]; omega
       ·have e1 := hQ2.out ha
        rw [Prod.mk.injEq] at e1
        obtain ⟨e2, rfl⟩ := e1
        have hbig := Hd ha
        clear e2 ha
        have gzz := gz.out
        obtain ⟨z0, z1, z2⟩ := gzz.all
        have zf := gzz.f
        obtain ⟨t0, t1, t2, hfin⟩ := last_set (w := w) (B := w.heap.size) gzz ⟨false, 0, 0⟩ hbr.out (Nat.le_refl _)
        dsimp only at t0 t1 t2 z0 z1 z2 hfin
        replace hfin := Hd hfin
        clear gzz gx gz hbr
        go_wp2_with fail
        (try simp only [Exit.inBlock, Exit.then])
        refine bodyPost_ret (by simp [results, Tryz.results129, go_sem, t0, t1, t2]; try rfl) rfl ?_
        refine ⟨?_, hfin.out⟩
        obtain ⟨e1, e2⟩ := hr2.out (Nat.not_lt.2 (Nat.le_trans (Nat.not_lt.1 hbig.out) hmono.out))
        rw [e1, e2]
        rfl
     ·have e1 := hP2.out hm
      rw [Prod.mk.injEq] at e1
      obtain ⟨e2, rfl⟩ := e1
      have hbig := Hd (show ¬ valD (D.take (j + 1)) < 170141183460469231731687303715884105728 by rw [hnext.out]; omega)
      clear e2 hm x0 x1 x2
      have gzz := gz.out
      obtain ⟨z0, z1, z2⟩ := gzz.all
      have zf := gzz.f
      obtain ⟨t0, t1, t2, hfin⟩ := last_set (w := w) (B := w.heap.size) gzz ⟨false, 0, 0⟩ hbr.out (Nat.le_refl _)
      dsimp only at t0 t1 t2 z0 z1 z2 hfin
      replace hfin := Hd hfin
      clear gzz gx gz hbr
      go_wp2_with fail
      (try simp only [Exit.inBlock, Exit.then])
      refine bodyPost_ret (by simp [results, Tryz.results129, go_sem, t0, t1, t2]; try rfl) rfl ?_
      refine ⟨?_, hfin.out⟩
      obtain ⟨e1, e2⟩ := hr2.out (Nat.not_lt.2 (Nat.le_trans (Nat.not_lt.1 hbig.out) hmono.out))
      rw [e1, e2]
      rfl
   ·obtain rfl : j = T.size := by omega
    rw [← hDl, List.take_length] at hv gx
    have cd := made_c ng (nw (valD D)).h (nw (valD D)).l (by unfold nw; dsimp only; omega) (by unfold nw; dsimp only; omega) (by unfold nw; dsimp only; omega) (by unfold nw; dsimp only; omega)
    rw [made_nw] at cd
    obtain ⟨hre, hec⟩ := hr1.out hv
    rw [← hre] at cd
    clear hre hr1 hr2 hv
    replace hec := Hd hec
    generalize nw (valD D) = V at *
    obtain ⟨rn, rh, rl⟩ := r
    obtain ⟨x0, x1, x2⟩ := gx.all
    unfold wv at *
    dsimp only at *
    replace cd := Hd cd
    replace gz := Hd gz
    replace hbr := Hd hbr
    clear gx
    go_wp2_with fail
    refine (cd.out _).mono ?_
    rintro e w9 ⟨rfl, hb9⟩
    have gz9 := gz.out.below hb9
    obtain ⟨z0, z1, z2⟩ := gz9.all
    have zf := gz9.f
    obtain ⟨r0, r1, r2, hfin⟩ := last_set (w := w) (B := w.heap.size) gz9 ⟨rn, rh, rl⟩ (hbr.out.trans (hb9.mono hszr)) (by omega)
    dsimp only at r0 r1 r2 hfin
    replace hfin := Hd hfin
    clear gz gz9 hb9 hbr x0 x1 x2
    go_wp2_with fail
    (try simp only [Exit.inBlock, Exit.then])
    refine bodyPost_ret (by simp [results, Tryz.results129, go_sem, r0, r1, r2]; try rfl) rfl ?_
    exact ⟨by rw [hec.out]; rfl, hfin.out⟩
end Go.Proofs.YtjjgbillihedgaaGreatDoor
