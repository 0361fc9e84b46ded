/- the walks over retrofitref01, second part: sizes -/
import Derived.Test.YtbfigpollacngaaDoorNmW
import Derived.Deep.QuietTactic
import Derived.BigQuiet
namespace Go.Proofs.YtbfigpollacngaaDoor
open Go.RowKit
open Rf
open Wide

theorem IsD.drew {w : World} {b : Nat} {n : Bool} {d : List Int} (h : IsD w b n d) : IsD w.drew b n d := h
theorem isD_drewN {w : World} {b k : Nat} {n : Bool} {d : List Int} (h : IsD w b n d) : IsD (w.drewN k) b n d := h
theorem below_drewN {B k : Nat} {a w : World} (h : Below B a w) : Below B a (w.drewN k) := h.trans ⟨rfl, rfl, rfl, Nat.le_refl _, fun _ _ => rfl⟩
theorem two_nd (w : World) (n m : Bool) (d e : List Int) : IsD ((w.alloc (oD n d)).alloc (oD m e)) w.heap.size n d ∧ IsD ((w.alloc (oD n d)).alloc (oD m e)) (w.heap.size + 1) m e := by
  refine ⟨(IsD.new w n d).alloc _, ?_⟩
  have := IsD.new (w.alloc (oD n d)) m e
  rwa [size_alloc] at this
set_option maxRecDepth 100000 in
set_option maxHeartbeats 4000000 in
theorem size_d (n m : Bool) (d e : List Int) (hd : Dig d) (he : Dig e) (h1 : d.length = 40) (h2 : e.length = 40) (w : World) :
    Calls Tryd.prog 47 #[nv n d, nv m e] w fun r w' => r = .returned (.int .i64 (sgn (valN d - valN e))) ∧ Below w.heap.size w w' := by
  obtain ⟨t, ht⟩ : ∃ t, sgn (valN d - valN e) = t := ⟨_, rfl⟩
  rw [ht]
  replace ht := Lib.hid ht
  go_enter Tryd.func47, Tryd.ntmps47
  go_wp2_with (first | (with_reducible refine wpl_nbox rfl rfl rfl ?_))
  obtain ⟨ga0, gb0⟩ := two_nd w n m d e
  have hb0 := Lib.hid (below2 w (oD n d) (oD m e))
  replace ga0 := Lib.hid ga0
  replace gb0 := Lib.hid gb0
  go_loopw [5] (fun i wr => ∃ j : Int, -1 ≤ j ∧ j ≤ 39 ∧ i = .int .i64 j ∧ d.drop (j + 1).toNat = e.drop (j + 1).toNat ∧ IsD wr w.heap.size n d ∧ IsD wr (w.heap.size + 1) m e ∧ Below w.heap.size w wr) (fun i _ => (intOf i + 1).toNat)
  case atStart => exact ⟨39, by decide, by decide, rfl, by rw [List.drop_of_length_le (by omega), List.drop_of_length_le (by omega)], ga0.out, gb0.out, hb0.out⟩
  case round =>
    obtain ⟨j, hj0, hj1, rfl, hdr, ga, gb, hb⟩ := hrel
    clear ga0 gb0 hb0
    by_cases hlt : 0 ≤ j
    · obtain ⟨i, rfl⟩ := Int.eq_ofNat_of_zero_le hlt
      rw [show ((i : Int) + 1).toNat = i + 1 by omega] at hdr
      have ca := ga.cell i (by omega)
      have cb := gb.cell i (by omega)
      have hm1 := Lib.hid (valN_more d e hd he i (by omega) (by omega) hdr)
      have hm2 := Lib.hid (valN_more e d he hd i (by omega) (by omega) hdr.symm)
      have heq : d[i]'(by omega) = e[i]'(by omega) → d.drop i = e.drop i := fun h => by rw [List.drop_eq_getElem_cons (by omega), List.drop_eq_getElem_cons (l := e) (by omega), h, hdr]
      replace heq := Lib.hid heq
      replace hd := Lib.hid hd
      replace he := Lib.hid he
      replace hdr := Lib.hid hdr
      replace h1 := Lib.hid h1
      replace h2 := Lib.hid h2
      replace ga := Lib.hid ga
      replace gb := Lib.hid gb
      replace hb := Lib.hid hb
      generalize hx : d[i]'(by have := h1.out; omega) = x at *
      generalize hy : e[i]'(by have := h2.out; omega) = y at *
      clear hx hy
      rcases Int.lt_trichotomy x y with hxy | hxy | hxy
      · go_wp2_with fail
        go_quiet (fail)
        go_wp2_with fail
        go_quiet (fail)
        go_wp2_with fail
        go_ret
        exact ⟨by rw [← ht.out, sgn_neg (by have := hm2.out hxy; omega)]; rfl, below_drewN (below_drewN hb.out)⟩
      · subst hxy
        have hn : ¬ x < x := Int.lt_irrefl x
        go_wp2_with fail
        go_quiet (fail)
        go_wp2_with fail
        go_quiet (fail)
        go_wp2_with fail
        go_roundw
        case rel => exact ⟨(i : Int) - 1, by omega, by omega, rfl, by rw [show ((i : Int) - 1 + 1).toNat = i by omega]; exact heq.out (by simp), isD_drewN ga.out, isD_drewN gb.out, below_drewN hb.out⟩
        case measure => simp [intOf]
      · go_wp2_with fail
        go_quiet (fail)
        go_wp2_with fail
        go_ret
        exact ⟨by rw [← ht.out, sgn_pos (by have := hm1.out hxy; omega)]; rfl, below_drewN hb.out⟩
    · obtain rfl : j = -1 := by omega
      go_wp2_with fail
      go_ret
      refine ⟨?_, hb⟩
      rw [← ht.out, show d = e from hdr, Int.sub_self]; rfl

/-- the number of an Int's digits -/
def dgs (x : WI) : List Int := digN 8 x.l ++ digN 8 x.h ++ List.replicate 24 0
theorem dgs_length (x : WI) : (dgs x).length = 40 := by simp [dgs, digN_length]
theorem dgs_dig (x : WI) : Dig (dgs x) := ((digN_dig 8 x.l).append (digN_dig 8 x.h)).append fun c hc => by rw [List.eq_of_mem_replicate hc]; omega
theorem dgs_val {x : WI} (ho : x.Ok) : valN (dgs x) = x.sz := by
  obtain ⟨o1, o2, o3, o4⟩ := ho
  have e : (256 : Int) ^ 8 = 18446744073709551616 := by decide
  unfold dgs WI.sz
  rw [valN_append, valN_append, valN_zero, digN_val 8 x.l o3 (by omega), digN_val 8 x.h o1 (by omega), digN_length, e]
  omega
theorem from_c (x : WI) (ho : x.Ok) (w : World) : Calls Tryd.prog 40 #[wv x] w fun r w' => r = .returned (nv x.n (dgs x)) ∧ Below w.heap.size w w' := from_d x ho w
end Go.Proofs.YtbfigpollacngaaDoor
