/- the walks over retrofitref01, third part: differences and sums -/
import Derived.Test.YtbfigpollacngaaDoorNmW2
import Derived.Test.YtbfigpollacngaaDoorNm2
import Derived.IntWalk
namespace Go.Proofs.YtbfigpollacngaaDoor
open Go.RowKit
open Rf
open Wide

/-- four numbers, made one behind the other -/
theorem four_nd (w : World) (n m z r : Bool) (d e f g : List Int) :
    IsD ((((w.alloc (oD n d)).alloc (oD m e)).alloc (oD z f)).alloc (oD r g)) w.heap.size n d ∧ IsD ((((w.alloc (oD n d)).alloc (oD m e)).alloc (oD z f)).alloc (oD r g)) (w.heap.size + 1) m e ∧
    IsD ((((w.alloc (oD n d)).alloc (oD m e)).alloc (oD z f)).alloc (oD r g)) (w.heap.size + 1 + 1) z f ∧ IsD ((((w.alloc (oD n d)).alloc (oD m e)).alloc (oD z f)).alloc (oD r g)) (w.heap.size + 1 + 1 + 1) r g ∧
    Below w.heap.size w ((((w.alloc (oD n d)).alloc (oD m e)).alloc (oD z f)).alloc (oD r g)) := by
  obtain ⟨h1, h2⟩ := two_nd w n m d e
  refine ⟨(h1.alloc _).alloc _, (h2.alloc _).alloc _, ?_, ?_, ((below2 w _ _).alloc (by rw [size_alloc, size_alloc]; omega) _).alloc (by rw [size_alloc, size_alloc, size_alloc]; omega) _⟩
  · have := (IsD.new ((w.alloc (oD n d)).alloc (oD m e)) z f).alloc (oD r g)
    rwa [size_alloc, size_alloc] at this
  · have := IsD.new (((w.alloc (oD n d)).alloc (oD m e)).alloc (oD z f)) r g
    rwa [size_alloc, size_alloc, size_alloc] at this
theorem neg3 (w : World) (n m z : Bool) (d e f : List Int) : (((w.alloc (oD n d)).alloc (oD m e)).alloc (oD z f)).cell? ⟨w.heap.size, 0, none⟩ = some (.bool n) := (((IsD.new w n d).alloc _).alloc _).neg
theorem neg3' (w : World) (n m z : Bool) (d e f : List Int) : (((w.alloc (oD n d)).alloc (oD m e)).alloc (oD z f)).cell? ⟨w.heap.size + 1, 0, none⟩ = some (.bool m) := ((two_nd w n m d e).2.alloc _).neg

set_option maxRecDepth 100000 in
set_option maxHeartbeats 8000000 in
theorem minus_d (n m : Bool) (d e : List Int) (hd : Dig d) (he : Dig e) (h1 : d.length = 40) (h2 : e.length = 40) (hle : valN e ≤ valN d) (w : World) :
    Calls Tryd.prog 51 #[nv n d, nv m e] w fun r w' => r = .returned (nv n (digN 40 (valN d - valN e))) ∧ Below w.heap.size w w' := by
  obtain ⟨R, hR⟩ : ∃ R, digN 40 (valN d - valN e) = R := ⟨_, rfl⟩
  rw [hR]
  replace hR := Lib.hid hR
  have hn1 := neg3 w n m false d e Z40
  have hn2 := neg3' w n m false d e Z40
  go_enter Tryd.func51, Tryd.ntmps51
  go_wp2_with (first | (with_reducible refine wpl_nbox rfl rfl rfl ?_) | (with_reducible refine wpl_nalloc rfl rfl ?_) | (with_reducible refine wpl_nbuild1 rfl rfl rfl ?_) | (with_reducible refine wpl_nstore_new rfl rfl rfl rfl (by simp) rfl rfl ?_))
  clear hn1 hn2
  obtain ⟨gd0, ge0, gz0, go0, hb0⟩ := four_nd w n m false n d e Z40 Z40
  replace gd0 := Lib.hid gd0
  replace ge0 := Lib.hid ge0
  replace gz0 := Lib.hid gz0
  replace go0 := Lib.hid go0
  replace hb0 := Lib.hid hb0
  go_loopw [6, 7] (fun c i wr => ∃ (j : Nat) (o : List Int) (b : Int), j ≤ 40 ∧ i = .int .i64 j ∧ c = .int .i64 b ∧ (b = 0 ∨ b = 1) ∧ o.length = 40 ∧ Dig o ∧ valN (o.take j) - 256 ^ j * b = valN (d.take j) - valN (e.take j) ∧
      IsD wr w.heap.size n d ∧ IsD wr (w.heap.size + 1) m e ∧ IsD wr (w.heap.size + 1 + 1) false Z40 ∧ IsD wr (w.heap.size + 1 + 1 + 1) n o ∧ Below w.heap.size w wr) (fun _ i _ => 40 - (intOf i).toNat)
  case atStart => exact ⟨0, Z40, 0, Nat.zero_le _, rfl, rfl, .inl rfl, rfl, Z40_dig, rfl, gd0.out, ge0.out, gz0.out, go0.out, hb0.out⟩
  case round =>
    clear gd0 ge0 gz0 go0 hb0
    obtain ⟨j, o, b, hj, rfl, rfl, hb01, ho, hoD, hinv, gd, ge, gz, gox, hb⟩ := hrel
    by_cases hlt' : j < 40
    · have cd := gd.cell j (by omega)
      have ce := ge.cell j (by omega)
      obtain ⟨v0, cx⟩ := gox.has j (by omega)
      have fx := gox.f (1 + j)
      have bd := hd.get j (by omega)
      have be := he.get j (by omega)
      have hstep := fun (b' v : Int) => minus_step o d e j (by omega) (by omega) (by omega) b b' v
      replace hstep := Lib.hid hstep
      replace hinv := Lib.hid hinv
      replace hd := Lib.hid hd
      replace he := Lib.hid he
      replace h1 := Lib.hid h1
      replace h2 := Lib.hid h2
      replace ho := Lib.hid ho
      replace gd := Lib.hid gd
      replace ge := Lib.hid ge
      replace gz := Lib.hid gz
      replace gox := Lib.hid gox
      replace hb := Lib.hid hb
      replace hoD := Lib.hid hoD
      generalize hx : d[j]'(by have := h1.out; omega) = x at *
      generalize hy : e[j]'(by have := h2.out; omega) = y at *
      clear hx hy
      have hb0 : 0 ≤ b := by omega
      have hb1 : b ≤ 1 := by omega
      have e1 : IntKind.i64.wrap (x - y) = x - y := IntWalk.i64_in _ (by omega)
      have e2 : IntKind.i64.wrap (x - y - b) = x - y - b := IntWalk.i64_in _ (by omega)
      by_cases hk : x - y - b < 0
      · go_wp2_with fail
        go_quiet (fail)
        clear e1 e2 cd ce
        go_wp2_with fail
        go_roundw
        case rel => exact ⟨j + 1, o.set j (x - y - b + 256), 1, by omega, by go_num, rfl, by omega, by rw [List.length_set]; exact ho.out, hoD.out.set j (by omega), hstep.out (1) (x - y - b + 256) (by omega) hinv.out, (isD_drewN gd.out).set_other (by omega), (isD_drewN ge.out).set_other (by omega), (isD_drewN gz.out).set_other (by omega), (isD_drewN gox.out).set j _, (below_drewN hb.out).setCell (show w.heap.size ≤ w.heap.size + 1 + 1 + 1 by omega) _⟩
        case measure => simp [intOf]; omega
      · go_wp2_with fail
        go_quiet (fail)
        clear e1 e2 cd ce
        go_wp2_with fail
        go_roundw
        case rel => exact ⟨j + 1, o.set j (x - y - b), 0, by omega, by go_num, rfl, by omega, by rw [List.length_set]; exact ho.out, hoD.out.set j (by omega), hstep.out (0) (x - y - b) (by omega) hinv.out, (isD_drewN gd.out).set_other (by omega), (isD_drewN ge.out).set_other (by omega), (isD_drewN gz.out).set_other (by omega), (isD_drewN gox.out).set j _, (below_drewN hb.out).setCell (show w.heap.size ≤ w.heap.size + 1 + 1 + 1 by omega) _⟩
        case measure => simp [intOf]; omega
    · obtain rfl : j = 40 := by omega
      have hend := minus_end o d e ho h1 h2 b hb01 hoD hle hinv
      rw [hR.out] at hend
      subst hend
      clear hinv hoD
      replace hb := Lib.hid hb
      go_wp2_with (first | (with_reducible refine wpl_nload rfl rfl rfl gox ho ?_) | (with_reducible refine wpl_nstore rfl rfl rfl rfl gz rfl ho ?_))
      (try simp only [Exit.inBlock, Exit.then])
      refine bodyPost_ret (n_result Tryd.results51 _ _ _ _ _ rfl (gz.row n o) ho) rfl ?_
      exact ⟨rfl, below_row hb.out (by omega) _⟩

set_option maxRecDepth 100000 in
set_option maxHeartbeats 8000000 in
theorem add_same (n : Bool) (d e : List Int) (hd : Dig d) (he : Dig e) (h1 : d.length = 40) (h2 : e.length = 40) (hlt : valN d + valN e < 256 ^ 40) (w : World) :
    Calls Tryd.prog 44 #[nv n d, nv n e] w fun r w' => r = .returned (nv n (digN 40 (valN d + valN e))) ∧ Below w.heap.size w w' := by
  obtain ⟨R, hR⟩ : ∃ R, digN 40 (valN d + valN e) = R := ⟨_, rfl⟩
  rw [hR]
  replace hR := Lib.hid hR
  have hn1 := neg3 w n n false d e Z40
  have hn2 := neg3' w n n false d e Z40
  go_enter Tryd.func44, Tryd.ntmps44
  go_wp2_with (first | (with_reducible refine wpl_nbox rfl rfl rfl ?_) | (with_reducible refine wpl_nalloc rfl rfl ?_) | (with_reducible refine wpl_nbuild1 rfl rfl rfl ?_) | (with_reducible refine wpl_nstore_new rfl rfl rfl rfl (by simp) rfl rfl ?_))
  clear hn1 hn2
  obtain ⟨gd0, ge0, gz0, go0, hb0⟩ := four_nd w n n false n d e Z40 Z40
  replace gd0 := Lib.hid gd0
  replace ge0 := Lib.hid ge0
  replace gz0 := Lib.hid gz0
  replace go0 := Lib.hid go0
  replace hb0 := Lib.hid hb0
  go_loopw [6, 7] (fun c i wr => ∃ (j : Nat) (o : List Int) (b : Int), j ≤ 40 ∧ i = .int .i64 j ∧ c = .int .i64 b ∧ (b = 0 ∨ b = 1) ∧ o.length = 40 ∧ Dig o ∧ valN (o.take j) + 256 ^ j * b = valN (d.take j) + valN (e.take j) ∧
      IsD wr w.heap.size n d ∧ IsD wr (w.heap.size + 1) n e ∧ IsD wr (w.heap.size + 1 + 1) false Z40 ∧ IsD wr (w.heap.size + 1 + 1 + 1) n o ∧ Below w.heap.size w wr) (fun _ i _ => 40 - (intOf i).toNat)
  case atStart => exact ⟨0, Z40, 0, Nat.zero_le _, rfl, rfl, .inl rfl, rfl, Z40_dig, rfl, gd0.out, ge0.out, gz0.out, go0.out, hb0.out⟩
  case round =>
    clear gd0 ge0 gz0 go0 hb0
    obtain ⟨j, o, b, hj, rfl, rfl, hb01, ho, hoD, hinv, gd, ge, gz, gox, hb⟩ := hrel
    by_cases hlt' : j < 40
    · have cd := gd.cell j (by omega)
      have ce := ge.cell j (by omega)
      obtain ⟨v0, cx⟩ := gox.has j (by omega)
      have fx := gox.f (1 + j)
      have bd := hd.get j (by omega)
      have be := he.get j (by omega)
      have hstep := fun (b' v : Int) => plus_step o d e j (by omega) (by omega) (by omega) b b' v
      replace hstep := Lib.hid hstep
      replace hinv := Lib.hid hinv
      replace hd := Lib.hid hd
      replace he := Lib.hid he
      replace h1 := Lib.hid h1
      replace h2 := Lib.hid h2
      replace ho := Lib.hid ho
      replace gd := Lib.hid gd
      replace ge := Lib.hid ge
      replace gz := Lib.hid gz
      replace gox := Lib.hid gox
      replace hb := Lib.hid hb
      replace hoD := Lib.hid hoD
      generalize hx : d[j]'(by have := h1.out; omega) = x at *
      generalize hy : e[j]'(by have := h2.out; omega) = y at *
      clear hx hy
      have hb0 : 0 ≤ b := by omega
      have hb1 : b ≤ 1 := by omega
      have e1 : IntKind.i64.wrap (x + y) = x + y := IntWalk.i64_in _ (by omega)
      have e2 : IntKind.i64.wrap (x + y + b) = x + y + b := IntWalk.i64_in _ (by omega)
      · go_wp2_with fail
        go_quiet (fail)
        clear e1 e2 cd ce
        go_wp2_with fail
        go_roundw
        case rel => exact ⟨j + 1, o.set j ((x + y + b) % 256), (x + y + b) / 256, by omega, by go_num, rfl, by omega, by rw [List.length_set]; exact ho.out, hoD.out.set j (by omega), hstep.out ((x + y + b) / 256) ((x + y + b) % 256) (by omega) hinv.out, (isD_drewN gd.out).set_other (by omega), (isD_drewN ge.out).set_other (by omega), (isD_drewN gz.out).set_other (by omega), (isD_drewN gox.out).set j _, (below_drewN hb.out).setCell (show w.heap.size ≤ w.heap.size + 1 + 1 + 1 by omega) _⟩
        case measure => simp [intOf]; omega
    · obtain rfl : j = 40 := by omega
      have hend := plus_end o d e ho h1 h2 b hb01 hoD hlt hinv
      rw [hR.out] at hend
      subst hend
      clear hinv hoD
      replace hb := Lib.hid hb
      go_wp2_with (first | (with_reducible refine wpl_nload rfl rfl rfl gox ho ?_) | (with_reducible refine wpl_nstore rfl rfl rfl rfl gz rfl ho ?_))
      (try simp only [Exit.inBlock, Exit.then])
      refine bodyPost_ret (n_result Tryd.results44 _ _ _ _ _ rfl (gz.row n o) ho) rfl ?_
      exact ⟨rfl, below_row hb.out (by omega) _⟩
end Go.Proofs.YtbfigpollacngaaDoor
