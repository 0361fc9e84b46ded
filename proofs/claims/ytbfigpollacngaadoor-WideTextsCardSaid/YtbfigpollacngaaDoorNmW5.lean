/- the walks over retrofitref01, fifth part: products -/
import Derived.Test.YtbfigpollacngaaDoorNmW3
import Derived.Test.YtbfigpollacngaaDoorNm3
namespace Go.Proofs.YtbfigpollacngaaDoor
open Go.RowKit
open Rf
open Wide

theorem isD_put {w : World} {b c k i : Nat} {n : Bool} {d : List Int} {v : Value} (h : IsD w b n d) (hne : b ≠ c) : IsD ((w.drewN k).setCell ⟨c, i, none⟩ v) b n d := (isD_drewN h).set_other hne
theorem isD_at {w : World} {b k : Nat} {n : Bool} {d : List Int} (h : IsD w b n d) (i : Nat) (v : Int) : IsD ((w.drewN k).setCell ⟨b, 1 + i, none⟩ (.int .i64 v)) b n (d.set i v) := (isD_drewN h).set i v
theorem below_at {B k i : Nat} {a w : World} (h : Below B a w) (v : Value) : Below B a ((w.drewN k).setCell ⟨B + 1 + 1 + 1, i, none⟩ v) := (below_drewN h).setCell (show B ≤ B + 1 + 1 + 1 by omega) _

set_option maxRecDepth 100000 in
set_option maxHeartbeats 16000000 in
theorem mul_d (n m : Bool) (d e : List Int) (hd : Dig d) (he : Dig e) (h1 : d.length = 40) (h2 : e.length = 40) (hl1 : valN d < 256 ^ 16) (hl2 : valN e < 256 ^ 16) (w : World) :
    Calls Tryd.prog 45 #[nv n d, nv m e] w fun r w' => r = .returned (nv (n != m) (digN 40 (valN d * valN e))) ∧ Below w.heap.size w w' := by
  obtain ⟨R, hR⟩ : ∃ R, digN 40 (valN d * valN e) = R := ⟨_, rfl⟩
  rw [hR]
  replace hR := Lib.hid hR
  have hn1 := neg3 w n m false d e Z40
  have hn2 := neg3' w n m false d e Z40
  go_enter Tryd.func45, Tryd.ntmps45
  go_wp2_with (first | (with_reducible refine wpl_nbox rfl rfl rfl ?_) | (with_reducible refine wpl_nalloc rfl rfl ?_) | (with_reducible refine wpl_nbuild1 rfl rfl rfl ?_) | (with_reducible refine wpl_nstore_new rfl rfl rfl rfl (by simp) rfl rfl ?_))
  clear hn1 hn2
  obtain ⟨gd0, ge0, gz0, go0, hb0⟩ := four_nd w n m false (n != m) d e Z40 Z40
  replace gd0 := Lib.hid gd0
  replace ge0 := Lib.hid ge0
  replace gz0 := Lib.hid gz0
  replace go0 := Lib.hid go0
  replace hb0 := Lib.hid hb0
  replace hl1 := Lib.hid hl1
  have he16 := Lib.hid (drop_zero_of he 16 hl2 (by omega))
  replace hl2 := Lib.hid hl2
  go_loopw [6] (fun iv wr => ∃ (i : Nat) (o : List Int), i ≤ 16 ∧ iv = .int .i64 i ∧ o.length = 40 ∧ Dig o ∧ valN o = valN (d.take i) * valN e ∧
      IsD wr w.heap.size n d ∧ IsD wr (w.heap.size + 1) m e ∧ IsD wr (w.heap.size + 1 + 1) false Z40 ∧ IsD wr (w.heap.size + 1 + 1 + 1) (n != m) o ∧ Below w.heap.size w wr) (fun i _ => 16 - (intOf i).toNat)
  case atStart => exact ⟨0, Z40, Nat.zero_le _, rfl, rfl, Z40_dig, by rw [List.take_zero]; show valN (List.replicate 40 0) = _; rw [valN_zero]; exact (Int.zero_mul _).symm, gd0.out, ge0.out, gz0.out, go0.out, hb0.out⟩
  case round =>
    clear gd0 ge0 gz0 go0 hb0
    obtain ⟨i, o, hi, rfl, ho, hoD, hinv, gd, ge, gz, gox, hb⟩ := hrel
    by_cases hlt : i < 16
    · have hst := Lib.hid (row_start d e i (by omega) o hinv)
      clear hinv
      have cd := Lib.hid (gd.cell i (by omega))
      have bd := hd.get i (by omega)
      have hT := Lib.hid (row_lt hd (valN_nn he) (i + 1) (by omega) hl2.out)
      replace gd := Lib.hid gd
      replace ge := Lib.hid ge
      replace gz := Lib.hid gz
      replace gox := Lib.hid gox
      replace hb := Lib.hid hb
      replace ho := Lib.hid ho
      replace hoD := Lib.hid hoD
      replace h1 := Lib.hid h1
      replace h2 := Lib.hid h2
      replace hd := Lib.hid hd
      replace he := Lib.hid he
      obtain ⟨x, hx⟩ : ∃ x, d[i]'(by have := h1.out; omega) = x := ⟨_, rfl⟩
      rw [hx] at hst cd bd
      replace hx := Lib.hid hx
      obtain ⟨T, hTT⟩ : ∃ T, valN (d.take (i + 1)) * valN e = T := ⟨_, rfl⟩
      rw [hTT] at hst hT
      replace hTT := Lib.hid hTT
      have hlt2 : (i : Int) < 16 := by omega
      have hdec : decide ((i : Int) < 16) = true := decide_eq_true hlt2
      go_wp2_with fail
      (try simp only [hdec])
      obtain ⟨wo, hwo⟩ : ∃ wo : World, wo = wr := ⟨_, rfl⟩
      replace hwo := Lib.hid hwo
      go_loopw [7, 8] (fun cv jv wi => ∃ (j : Nat) (c : Int) (q : List Int), j ≤ 17 ∧ jv = .int .i64 j ∧ cv = .int .i64 c ∧ 0 ≤ c ∧ c ≤ 255 ∧ q.length = 40 ∧ Dig q ∧
          valN q + 256 ^ (i + j) * c + x * 256 ^ (i + j) * valN (e.drop j) = T ∧
          IsD wi w.heap.size n d ∧ IsD wi (w.heap.size + 1) m e ∧ IsD wi (w.heap.size + 1 + 1) false Z40 ∧ IsD wi (w.heap.size + 1 + 1 + 1) (n != m) q ∧ Below w.heap.size w wi) (fun _ j _ => 17 - (intOf j).toNat)
      case atStart => exact ⟨0, 0, o, Nat.zero_le _, rfl, rfl, by omega, by omega, ho.out, hoD.out, hst.out, gd.out, ge.out, gz.out, gox.out, hb.out⟩
      case round =>
        clear gd ge gz gox hb hst ho hoD hwo cd
        obtain ⟨j, c, q, hj, rfl, rfl, c0, c1, hq, hqD, hinv, gd, ge, gz, gox, hb⟩ := hrel
        obtain ⟨p, hp⟩ : ∃ p, i + j = p := ⟨_, rfl⟩
        have hp2 : (i : Int) + (j : Int) = (p : Int) := by omega
        rw [hp] at hinv
        replace h1 := h1.out
        replace h2 := h2.out
        replace hd := hd.out
        replace he := he.out
        have cd := gd.cell i (by omega)
        have hdi : d[i]'(by omega) = x := hx.out
        rw [hdi] at cd
        clear hdi
        have cq := gox.cell p (by omega)
        have fq := gox.f (1 + p)
        have bq := hqD.get p (by omega)
        by_cases hj16 : j < 16
        · have ce := ge.cell j (by omega)
          have be := he.get j (by omega)
          have hfin := row_step q e p j (by omega) (by omega) c x T hinv
          obtain ⟨y, hy⟩ : ∃ y, e[j]'(by omega) = y := ⟨_, rfl⟩
          rw [hy] at ce be hfin
          clear hy
          obtain ⟨z, hz⟩ : ∃ z, q[p]'(by omega) = z := ⟨_, rfl⟩
          rw [hz] at cq bq hfin
          clear hz
          obtain ⟨pr0, pr1⟩ := prod_bd bd be
          obtain ⟨P, hP⟩ : ∃ P, x * y = P := ⟨_, rfl⟩
          rw [hP] at pr0 pr1 hfin
          have e0 : IntKind.i64.wrap (z + c) = z + c := IntWalk.i64_in _ (by omega)
          have e1 : IntKind.i64.wrap P = P := IntWalk.i64_in _ (by omega)
          have e2 : IntKind.i64.wrap (z + c + P) = z + c + P := IntWalk.i64_in _ (by omega)
          replace hfin := Lib.hid hfin
          replace hd := Lib.hid hd
          replace he := Lib.hid he
          replace h1 := Lib.hid h1
          replace h2 := Lib.hid h2
          replace hq := Lib.hid hq
          replace hqD := Lib.hid hqD
          replace hinv := Lib.hid hinv
          replace gd := Lib.hid gd
          replace ge := Lib.hid ge
          replace gz := Lib.hid gz
          replace gox := Lib.hid gox
          replace hb := Lib.hid hb
          go_wp2_with fail
          go_quiet (fail)
          clear e0 e1 e2 cd ce
          go_wp2_with fail
          go_roundw
          case rel => exact ⟨j + 1, (z + c + P) / 256, q.set p ((z + c + P) % 256), by omega, by go_num, rfl, by omega, by omega, by rw [List.length_set]; exact hq.out, hqD.out.set p (by omega), by rw [show i + (j + 1) = p + 1 by omega]; exact hfin.out, isD_put gd.out (by omega), isD_put ge.out (by omega), isD_put gz.out (by omega), isD_at gox.out p _, below_at hb.out _⟩
          case measure => simp [intOf]; omega
        · have hz16 := drop_zero_more he 16 he16.out j (by omega)
          have hz17 := drop_zero_more he 16 he16.out (j + 1) (by omega)
          by_cases hc : 0 < c
          · have hpn := row_carry (valN_nn hqD) (X := x * 256 ^ p * valN (e.drop j)) (by rw [hz16, Int.mul_zero]; exact Int.le_refl _) hc hinv hT.out
            have hfin := row_step0 q e p j (by omega) hz16 hz17 c x T hinv
            obtain ⟨z, hz⟩ : ∃ z, q[p]'(by omega) = z := ⟨_, rfl⟩
            rw [hz] at cq bq hfin
            clear hz
            have e0 : IntKind.i64.wrap (z + c) = z + c := IntWalk.i64_in _ (by omega)
            replace hfin := Lib.hid hfin
            replace hd := Lib.hid hd
            replace he := Lib.hid he
            replace h1 := Lib.hid h1
            replace h2 := Lib.hid h2
            replace hq := Lib.hid hq
            replace hqD := Lib.hid hqD
            replace hinv := Lib.hid hinv
            replace gd := Lib.hid gd
            replace ge := Lib.hid ge
            replace gz := Lib.hid gz
            replace gox := Lib.hid gox
            replace hb := Lib.hid hb
            go_wp2_with fail
            clear e0 cd
            go_roundw
            case rel => exact ⟨j + 1, (z + c) / 256, q.set p ((z + c) % 256), by omega, by go_num, rfl, by omega, by omega, by rw [List.length_set]; exact hq.out, hqD.out.set p (by omega), by rw [show i + (j + 1) = p + 1 by omega]; exact hfin.out, gd.out.set_other (by omega), ge.out.set_other (by omega), gz.out.set_other (by omega), gox.out.set p _, hb.out.setCell (show w.heap.size ≤ w.heap.size + 1 + 1 + 1 by omega) _⟩
            case measure => simp [intOf]; omega
          · obtain rfl : c = 0 := by omega
            have hend := row_end hz16 hinv
            replace hd := Lib.hid hd
            replace he := Lib.hid he
            replace h1 := Lib.hid h1
            replace h2 := Lib.hid h2
            replace hq := Lib.hid hq
            replace hqD := Lib.hid hqD
            replace hinv := Lib.hid hinv
            replace gd := Lib.hid gd
            replace ge := Lib.hid ge
            replace gz := Lib.hid gz
            replace gox := Lib.hid gox
            replace hb := Lib.hid hb
            go_wp2_with fail
            go_roundw
            case rel => exact ⟨i + 1, q, by omega, by go_num, hq.out, hqD.out, by rw [hTT.out]; exact hend, gd.out, ge.out, gz.out, gox.out, hb.out⟩
            case measure => simp [intOf]; omega
    · obtain rfl : i = 16 := by omega
      have hend := times_end o d e ho hoD hd h1 hl1.out hinv
      rw [hR.out] at hend
      subst hend
      clear hinv hoD
      replace hb := Lib.hid hb
      go_wp2_with (first | (with_reducible refine wpl_nload rfl rfl rfl gox ho ?_) | (with_reducible refine wpl_nstore rfl rfl rfl rfl gz rfl ho ?_))
      (try simp only [Exit.inBlock, Exit.then])
      refine bodyPost_ret (n_result Tryd.results45 _ _ _ _ _ rfl (gz.row (n != m) o) ho) rfl ?_
      exact ⟨rfl, below_row hb.out (by omega) _⟩
end Go.Proofs.YtbfigpollacngaaDoor
