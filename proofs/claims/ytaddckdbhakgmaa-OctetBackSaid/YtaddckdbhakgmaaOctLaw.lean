/- the walk of the statements' own anchor (layer 2) -/
import Derived.Test.YtaddckdbhakgmaaRef02W
import Derived.Test.YtaddckdbhakgmaaRef02R
namespace Go.Proofs.Ytaddckdbhakgmaa
open Go.RowKit
open Rf

theorem text_of (s : ByteArray) (l : List UInt8) (h : byts s = l) : s = text l := by rw [← h, text_byts]

set_option maxHeartbeats 800000 in
theorem awake2_c (w : World) : Calls Try.prog 19 #[] w fun e w' => e = .returned (.bool true) ∧ Below w.heap.size w w' := by
  go_enter Try.func19, Try.ntmps19
  go_wp2_with fail
  refine (num_yes (IsW.new w.heap.size w (Nat.le_refl _)) 2 258 (by decide) (by decide) (by decide) (by decide +kernel) (by decide +kernel)).mono ?_
  rintro e w1 ⟨rfl, hw1, hb1⟩
  go_wp2_with fail
  refine (name_yes hw1 _ (by decide) (by decide +kernel)).mono ?_
  rintro e w2 ⟨rfl, hw2, hb2⟩
  go_wp2_with fail
  refine (part_c hw2 _ (by decide) (by decide +kernel)).mono ?_
  rintro e w3 ⟨rfl, hw3, hb3⟩
  go_wp2_with fail
  refine (num_no 1 256 (by decide) (by decide) (by decide +kernel)).mono ?_
  rintro e w' ⟨rfl, rfl⟩
  go_wp2_with fail
  have hw4 : IsW w.heap.size w3 w.heap.size [2, 1, 2, 97, 98, 1, 0, 0, 0, 99] := by
    have e : [] ++ le (Int.toNat 2) 258 ++ (le 1 (({ data := #[97, 98] } : ByteArray).size : Int) ++ byts { data := #[97, 98] }) ++ (le 4 (({ data := #[99] } : ByteArray).size : Int) ++ byts { data := #[99] }) = ([2, 1, 2, 97, 98, 1, 0, 0, 0, 99] : List UInt8) := by decide +kernel
    rwa [e] at hw3
  have hb : Below w.heap.size w w3 := ((Below.refl _ _).alloc (Nat.le_refl _) _).trans (hb1.trans (hb2.trans hb3))
  clear hw1 hw2 hw3 hb1 hb2 hb3
  refine (string_c hw4).mono ?_
  rintro e w' ⟨rfl, rfl⟩
  go_wp2_with fail
  refine (read_c _ _).mono ?_
  rintro e w4 ⟨rfl, rfl⟩
  have hr := IsR.new w3 68 [2, 1, 2, 97, 98, 1, 0, 0, 0, 99]
  have hr3 : Below w3.heap.size w3 (w3.alloc (.cells #[.string (text [2, 1, 2, 97, 98, 1, 0, 0, 0, 99]), .bool false] 68)) := (Below.refl _ _).alloc (Nat.le_refl _) _
  obtain ⟨r, hrr⟩ : ∃ r, w3.heap.size = r := ⟨_, rfl⟩
  rw [hrr] at hr hr3 ⊢
  generalize hW : w3.alloc (.cells #[.string (text [2, 1, 2, 97, 98, 1, 0, 0, 0, 99]), .bool false] 68) = W at *
  clear hW
  have hWs : r ≤ W.heap.size := by have := hr3.size; omega
  have c1 := rnum_c hr 2 (by decide)
  rw [show rNum 2 [2, 1, 2, 97, 98, 1, 0, 0, 0, 99] false = (258, [2, 97, 98, 1, 0, 0, 0, 99], false) from by decide +kernel] at c1
  go_wp2_with fail
  refine Calls.mono c1 ?_
  rintro e W1 ⟨rfl, hr1, hg1⟩
  clear c1
  have k1 : Below r w3 W1 := hr3.grown hg1 hWs (fun k hk => by cases hk; exact Nat.le_refl _)
  have c2 := rname_c hr1 (by decide)
  rw [show rText 1 255 [2, 97, 98, 1, 0, 0, 0, 99] false = ([97, 98], [1, 0, 0, 0, 99], false) from by decide +kernel] at c2
  go_wp2_with fail
  refine Calls.mono c2 ?_
  rintro e W2 ⟨rfl, hr2, hg2⟩
  clear c2
  have k2 : Below r w3 W2 := k1.grown hg2 (Nat.le_trans hWs hg1.size) (fun k hk => by cases hk; exact Nat.le_refl _)
  have c3 := rpart_c hr2 1 (by decide)
  rw [show rText 4 1 [1, 0, 0, 0, 99] false = ([99], [], false) from by decide +kernel] at c3
  go_wp2_with fail
  refine Calls.mono c3 ?_
  rintro e W3 ⟨rfl, hr3', hg3⟩
  clear c3
  have k3 : Below r w3 W3 := k2.grown hg3 (Nat.le_trans hWs (Nat.le_trans hg1.size hg2.size)) (fun k hk => by cases hk; exact Nat.le_refl _)
  have hfin := hb.trans (k3.mono (by have := hb.size; omega))
  have hw5 := hw4.below (by rw [hrr]; exact k3)
  clear hrr
  have t1 := toList_text [2, 1, 2, 97, 98, 1, 0, 0, 0, 99]
  have t2 := toList_text [97, 98]
  have t3 := toList_text [99]
  go_wp2_with fail
  refine (string_c hw5).mono ?_
  rintro e w' ⟨rfl, rfl⟩
  go_wp2_with fail
  refine (done_c hr3').mono ?_
  rintro e w' ⟨rfl, rfl⟩
  go_wp2_with fail
  refine (bad_c hr3').mono ?_
  rintro e w' ⟨rfl, rfl⟩
  go_wp2_with fail
  go_ret
  exact ⟨rfl, hfin⟩
end Go.Proofs.Ytaddckdbhakgmaa
