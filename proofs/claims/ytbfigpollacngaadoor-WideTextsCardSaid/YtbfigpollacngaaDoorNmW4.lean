/- the walks over retrofitref01, fourth part: sums of two signs -/
import Derived.Test.YtbfigpollacngaaDoorNmW3
namespace Go.Proofs.YtbfigpollacngaaDoor
open Go.RowKit
open Rf
open Wide

/-- three numbers, made one behind the other -/
theorem three_nd (w : World) (n m z : Bool) (d e f : List Int) :
    IsD (((w.alloc (oD n d)).alloc (oD m e)).alloc (oD z f)) w.heap.size n d ∧ IsD (((w.alloc (oD n d)).alloc (oD m e)).alloc (oD z f)) (w.heap.size + 1) m e ∧
    IsD (((w.alloc (oD n d)).alloc (oD m e)).alloc (oD z f)) (w.heap.size + 1 + 1) z f ∧ Below w.heap.size w (((w.alloc (oD n d)).alloc (oD m e)).alloc (oD z f)) := by
  obtain ⟨h1, h2⟩ := two_nd w n m d e
  refine ⟨h1.alloc _, h2.alloc _, ?_, (below2 w _ _).alloc (by rw [size_alloc, size_alloc]; omega) _⟩
  have := IsD.new ((w.alloc (oD n d)).alloc (oD m e)) z f
  rwa [size_alloc, size_alloc] at this
theorem below_up {a b c : World} {B C : Nat} (h : Below B a b) (hC : B ≤ C) (k : Below C b c) : Below B a c := h.trans (k.mono hC)

set_option maxRecDepth 100000 in
set_option maxHeartbeats 8000000 in
theorem add_ge_tf (d e : List Int) (hd : Dig d) (he : Dig e) (h1 : d.length = 40) (h2 : e.length = 40) (hq : valN e ≤ valN d) (w : World) :
    Calls Tryd.prog 44 #[nv true d, nv false e] w fun r w' => r = .returned (nv true (digN 40 (valN d - valN e))) ∧ Below w.heap.size w w' := by
  obtain ⟨R, hR⟩ : ∃ R, digN 40 (valN d - valN e) = R := ⟨_, rfl⟩
  rw [hR]
  have hRl : R.length = 40 := by rw [← hR, digN_length]
  replace hR := Lib.hid hR
  have hn1 := neg3 w true false false d e Z40
  have hn2 := neg3' w true false false d e Z40
  obtain ⟨gd, ge, gz, hb⟩ := three_nd w true false false d e Z40
  go_enter Tryd.func44, Tryd.ntmps44
  go_wp2_with (first | (with_reducible refine wpl_nbox rfl rfl rfl ?_) | (with_reducible refine wpl_nalloc rfl rfl ?_) | (with_reducible refine wpl_nload rfl rfl rfl gd h1 ?_) | (with_reducible refine wpl_nload rfl rfl rfl ge h2 ?_))
  clear hn1 hn2
  replace hd := Lib.hid hd
  replace he := Lib.hid he
  replace hq := Lib.hid hq
  replace h1 := Lib.hid h1
  replace h2 := Lib.hid h2
  refine (size_d true false d e hd.out he.out h1.out h2.out _).mono ?_
  rintro r w1 ⟨rfl, hb1⟩
  have gd1 := gd.below hb1
  have ge1 := ge.below hb1
  have gz1 := gz.below hb1
  have hb2 := below_up hb (by rw [size_alloc, size_alloc, size_alloc]; omega) hb1
  clear gd ge gz hb hb1
  obtain ⟨s, hs, h0⟩ : ∃ s, sgn (valN d - valN e) = s ∧ 0 ≤ s := ⟨_, rfl, by have := hq.out; unfold sgn; split <;> (try split) <;> omega⟩
  rw [hs]
  clear hs
  replace h1 := h1.out
  replace h2 := h2.out
  go_wp2_with (first | (with_reducible refine wpl_nload rfl rfl rfl gd1 h1 ?_) | (with_reducible refine wpl_nload rfl rfl rfl ge1 h2 ?_))
  replace h1 := Lib.hid h1
  replace h2 := Lib.hid h2
  refine (minus_d true false d e hd.out he.out h1.out h2.out hq.out _).mono ?_
  rintro r w2 ⟨rfl, hb3⟩
  rw [hR.out]
  have gz2 := gz1.below hb3
  have hb4 := below_up hb2 hb2.size hb3
  clear gd1 ge1 gz1 hb2 hb3
  go_wp2_with (first | (with_reducible refine wpl_nstore rfl rfl rfl rfl gz2 rfl hRl ?_))
  (try simp only [Exit.inBlock, Exit.then])
  refine bodyPost_ret (n_result Tryd.results44 _ _ _ _ _ rfl (gz2.row true R) hRl) rfl ?_
  exact ⟨rfl, below_row hb4 (by omega) _⟩

set_option maxRecDepth 100000 in
set_option maxHeartbeats 8000000 in
theorem add_lt_tf (d e : List Int) (hd : Dig d) (he : Dig e) (h1 : d.length = 40) (h2 : e.length = 40) (hq : valN d < valN e) (w : World) :
    Calls Tryd.prog 44 #[nv true d, nv false e] w fun r w' => r = .returned (nv false (digN 40 (valN e - valN d))) ∧ Below w.heap.size w w' := by
  obtain ⟨R, hR⟩ : ∃ R, digN 40 (valN e - valN d) = R := ⟨_, rfl⟩
  rw [hR]
  have hRl : R.length = 40 := by rw [← hR, digN_length]
  replace hR := Lib.hid hR
  have hn1 := neg3 w true false false d e Z40
  have hn2 := neg3' w true false false d e Z40
  obtain ⟨gd, ge, gz, hb⟩ := three_nd w true false false d e Z40
  go_enter Tryd.func44, Tryd.ntmps44
  go_wp2_with (first | (with_reducible refine wpl_nbox rfl rfl rfl ?_) | (with_reducible refine wpl_nalloc rfl rfl ?_) | (with_reducible refine wpl_nload rfl rfl rfl gd h1 ?_) | (with_reducible refine wpl_nload rfl rfl rfl ge h2 ?_))
  clear hn1 hn2
  replace hd := Lib.hid hd
  replace he := Lib.hid he
  replace hq := Lib.hid hq
  replace h1 := Lib.hid h1
  replace h2 := Lib.hid h2
  refine (size_d true false d e hd.out he.out h1.out h2.out _).mono ?_
  rintro r w1 ⟨rfl, hb1⟩
  have gd1 := gd.below hb1
  have ge1 := ge.below hb1
  have gz1 := gz.below hb1
  have hb2 := below_up hb (by rw [size_alloc, size_alloc, size_alloc]; omega) hb1
  clear gd ge gz hb hb1
  rw [show sgn (valN d - valN e) = -1 from sgn_neg (by have := hq.out; omega)]
  replace h1 := h1.out
  replace h2 := h2.out
  go_wp2_with (first | (with_reducible refine wpl_nload rfl rfl rfl gd1 h1 ?_) | (with_reducible refine wpl_nload rfl rfl rfl ge1 h2 ?_))
  replace h1 := Lib.hid h1
  replace h2 := Lib.hid h2
  refine (minus_d false true e d he.out hd.out h2.out h1.out (Int.le_of_lt hq.out) _).mono ?_
  rintro r w2 ⟨rfl, hb3⟩
  rw [hR.out]
  have gz2 := gz1.below hb3
  have hb4 := below_up hb2 hb2.size hb3
  clear gd1 ge1 gz1 hb2 hb3
  go_wp2_with (first | (with_reducible refine wpl_nstore rfl rfl rfl rfl gz2 rfl hRl ?_))
  (try simp only [Exit.inBlock, Exit.then])
  refine bodyPost_ret (n_result Tryd.results44 _ _ _ _ _ rfl (gz2.row false R) hRl) rfl ?_
  exact ⟨rfl, below_row hb4 (by omega) _⟩

set_option maxRecDepth 100000 in
set_option maxHeartbeats 8000000 in
theorem add_ge_ft (d e : List Int) (hd : Dig d) (he : Dig e) (h1 : d.length = 40) (h2 : e.length = 40) (hq : valN e ≤ valN d) (w : World) :
    Calls Tryd.prog 44 #[nv false d, nv true e] w fun r w' => r = .returned (nv false (digN 40 (valN d - valN e))) ∧ Below w.heap.size w w' := by
  obtain ⟨R, hR⟩ : ∃ R, digN 40 (valN d - valN e) = R := ⟨_, rfl⟩
  rw [hR]
  have hRl : R.length = 40 := by rw [← hR, digN_length]
  replace hR := Lib.hid hR
  have hn1 := neg3 w false true false d e Z40
  have hn2 := neg3' w false true false d e Z40
  obtain ⟨gd, ge, gz, hb⟩ := three_nd w false true false d e Z40
  go_enter Tryd.func44, Tryd.ntmps44
  go_wp2_with (first | (with_reducible refine wpl_nbox rfl rfl rfl ?_) | (with_reducible refine wpl_nalloc rfl rfl ?_) | (with_reducible refine wpl_nload rfl rfl rfl gd h1 ?_) | (with_reducible refine wpl_nload rfl rfl rfl ge h2 ?_))
  clear hn1 hn2
  replace hd := Lib.hid hd
  replace he := Lib.hid he
  replace hq := Lib.hid hq
  replace h1 := Lib.hid h1
  replace h2 := Lib.hid h2
  refine (size_d false true d e hd.out he.out h1.out h2.out _).mono ?_
  rintro r w1 ⟨rfl, hb1⟩
  have gd1 := gd.below hb1
  have ge1 := ge.below hb1
  have gz1 := gz.below hb1
  have hb2 := below_up hb (by rw [size_alloc, size_alloc, size_alloc]; omega) hb1
  clear gd ge gz hb hb1
  obtain ⟨s, hs, h0⟩ : ∃ s, sgn (valN d - valN e) = s ∧ 0 ≤ s := ⟨_, rfl, by have := hq.out; unfold sgn; split <;> (try split) <;> omega⟩
  rw [hs]
  clear hs
  replace h1 := h1.out
  replace h2 := h2.out
  go_wp2_with (first | (with_reducible refine wpl_nload rfl rfl rfl gd1 h1 ?_) | (with_reducible refine wpl_nload rfl rfl rfl ge1 h2 ?_))
  replace h1 := Lib.hid h1
  replace h2 := Lib.hid h2
  refine (minus_d false true d e hd.out he.out h1.out h2.out hq.out _).mono ?_
  rintro r w2 ⟨rfl, hb3⟩
  rw [hR.out]
  have gz2 := gz1.below hb3
  have hb4 := below_up hb2 hb2.size hb3
  clear gd1 ge1 gz1 hb2 hb3
  go_wp2_with (first | (with_reducible refine wpl_nstore rfl rfl rfl rfl gz2 rfl hRl ?_))
  (try simp only [Exit.inBlock, Exit.then])
  refine bodyPost_ret (n_result Tryd.results44 _ _ _ _ _ rfl (gz2.row false R) hRl) rfl ?_
  exact ⟨rfl, below_row hb4 (by omega) _⟩

set_option maxRecDepth 100000 in
set_option maxHeartbeats 8000000 in
theorem add_lt_ft (d e : List Int) (hd : Dig d) (he : Dig e) (h1 : d.length = 40) (h2 : e.length = 40) (hq : valN d < valN e) (w : World) :
    Calls Tryd.prog 44 #[nv false d, nv true e] w fun r w' => r = .returned (nv true (digN 40 (valN e - valN d))) ∧ Below w.heap.size w w' := by
  obtain ⟨R, hR⟩ : ∃ R, digN 40 (valN e - valN d) = R := ⟨_, rfl⟩
  rw [hR]
  have hRl : R.length = 40 := by rw [← hR, digN_length]
  replace hR := Lib.hid hR
  have hn1 := neg3 w false true false d e Z40
  have hn2 := neg3' w false true false d e Z40
  obtain ⟨gd, ge, gz, hb⟩ := three_nd w false true false d e Z40
  go_enter Tryd.func44, Tryd.ntmps44
  go_wp2_with (first | (with_reducible refine wpl_nbox rfl rfl rfl ?_) | (with_reducible refine wpl_nalloc rfl rfl ?_) | (with_reducible refine wpl_nload rfl rfl rfl gd h1 ?_) | (with_reducible refine wpl_nload rfl rfl rfl ge h2 ?_))
  clear hn1 hn2
  replace hd := Lib.hid hd
  replace he := Lib.hid he
  replace hq := Lib.hid hq
  replace h1 := Lib.hid h1
  replace h2 := Lib.hid h2
  refine (size_d false true d e hd.out he.out h1.out h2.out _).mono ?_
  rintro r w1 ⟨rfl, hb1⟩
  have gd1 := gd.below hb1
  have ge1 := ge.below hb1
  have gz1 := gz.below hb1
  have hb2 := below_up hb (by rw [size_alloc, size_alloc, size_alloc]; omega) hb1
  clear gd ge gz hb hb1
  rw [show sgn (valN d - valN e) = -1 from sgn_neg (by have := hq.out; omega)]
  replace h1 := h1.out
  replace h2 := h2.out
  go_wp2_with (first | (with_reducible refine wpl_nload rfl rfl rfl gd1 h1 ?_) | (with_reducible refine wpl_nload rfl rfl rfl ge1 h2 ?_))
  replace h1 := Lib.hid h1
  replace h2 := Lib.hid h2
  refine (minus_d true false e d he.out hd.out h2.out h1.out (Int.le_of_lt hq.out) _).mono ?_
  rintro r w2 ⟨rfl, hb3⟩
  rw [hR.out]
  have gz2 := gz1.below hb3
  have hb4 := below_up hb2 hb2.size hb3
  clear gd1 ge1 gz1 hb2 hb3
  go_wp2_with (first | (with_reducible refine wpl_nstore rfl rfl rfl rfl gz2 rfl hRl ?_))
  (try simp only [Exit.inBlock, Exit.then])
  refine bodyPost_ret (n_result Tryd.results44 _ _ _ _ _ rfl (gz2.row true R) hRl) rfl ?_
  exact ⟨rfl, below_row hb4 (by omega) _⟩
end Go.Proofs.YtbfigpollacngaaDoor
