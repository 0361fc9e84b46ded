/- the walk over retrofitlaw10.awake -/
import Derived.Test.YtmikhngmclngiaaDoorSgPa
namespace Go.Proofs.YtmikhngmclngiaaDoor
open Go.RowKit
open Rf
open Sg
open Wide

def t13 : ByteArray := ⟨#[49, 43, 51]⟩
def t31 : ByteArray := ⟨#[51, 43, 49]⟩
theorem ids10 : ids 10 = [1, 3] := by decide
theorem text10 : textS 10 = [49, 43, 51] := by
  unfold textS
  rw [ids10, if_neg (by decide)]
  unfold dgt
  rw [List.map_cons, List.map_cons, List.map_nil, show (1 : Int).toNat = 1 from rfl, show (3 : Int).toNat = 3 from rfl, show digs 1 = [49] by rw [digs, if_pos (by decide)]; rfl, show digs 3 = [51] by rw [digs, if_pos (by decide)]; rfl]
  rfl
theorem text0 : textS 0 = [45] := by
  unfold textS
  rw [if_pos (by decide)]
theorem out13 : outOf t13 = 10 := by decide +kernel
theorem out31 : outOf t31 = 10 := by decide +kernel
theorem parse13 : parseS t13 = (10, 0) := by
  unfold parseS
  rw [out13, text10, if_pos (by rfl)]
theorem parse31 : parseS t31 = (0, 4) := by
  unfold parseS
  rw [out31, text10, if_neg (by decide)]
theorem parts11 : partsF [1, 1] = (0, 7) := by decide
theorem of31 : setOf [3, 1] = 10 := by decide
set_option maxRecDepth 100000 in
set_option maxHeartbeats 8000000 in
theorem awake_c (w : World) (hg : Glob w) : Calls Tryd.prog 7 #[] w fun e w' => e = .returned (.bool true) ∧ Below w.heap.size w w' := by
  have c1 := of_c [3, 1] (by decide) (some ⟨w.heap.size, 0, none⟩) 2 (w.alloc (.cells #[.int .i64 3, .int .i64 1] 3)) (.inr ⟨w.heap.size, 0, rfl, by rw [size_alloc]; omega, fun j hj => by
    rw [(IsC.new w 3 #[.int .i64 3, .int .i64 1]).cell (0 + j)]
    match j, hj with
    | 0, _ => rfl
    | 1, _ => rfl⟩)
  rw [of31] at c1
  replace c1 := Lib.hid c1
  have hb0 := Lib.hid (below1 w (.cells #[.int .i64 3, .int .i64 1] 3))
  go_enter Tryd.func7, Tryd.ntmps7
  go_wp2_with fail
  refine c1.out.mono ?_
  rintro e w1 ⟨rfl, hb1⟩
  have hb := below_up hb0.out hb0.out.size hb1
  clear hb1 hb0 c1
  have c2 := parse_c t13 (by decide) w1 (hg.on hb)
  rw [parse13] at c2
  replace c2 := Lib.hid c2
  replace hb := Lib.hid hb
  go_wp2_with fail
  refine c2.out.mono ?_
  rintro e w2 ⟨rfl, hb1⟩
  replace hb := below_up hb.out hb.out.size hb1
  clear hb1 c2
  have c3 := parse_c t31 (by decide) w2 (hg.on hb)
  rw [parse31] at c3
  replace c3 := Lib.hid c3
  replace hb := Lib.hid hb
  go_wp2_with fail
  refine c3.out.mono ?_
  rintro e w3 ⟨rfl, hb1⟩
  replace hb := below_up hb.out hb.out.size hb1
  clear hb1 c3
  have c4 := of_c [25] (by decide) (some ⟨w3.heap.size, 0, none⟩) 1 (w3.alloc (.cells #[.int .i64 25] 3)) (.inr ⟨w3.heap.size, 0, rfl, by rw [size_alloc]; omega, fun j hj => by
    rw [(IsC.new w3 3 #[.int .i64 25]).cell (0 + j)]
    match j, hj with
    | 0, _ => rfl⟩)
  have hb0 := hb.alloc hb.size (.cells #[.int .i64 25] 3)
  clear hb
  replace c4 := Lib.hid c4
  replace hb0 := Lib.hid hb0
  go_wp2_with fail
  refine c4.out.mono ?_
  rintro e w4 ⟨rfl, hb1⟩
  have hb := below_up hb0.out hb0.out.size hb1
  clear hb1 hb0 c4
  have c5 := parts_c [1, 1] (by decide) (some ⟨w4.heap.size, 0, none⟩) 2 (w4.alloc (.cells #[.int .i64 1, .slice none 0 0, .int .i64 1, .slice none 0 0] 35)) (.inr ⟨w4.heap.size, 0, rfl, by rw [size_alloc]; omega, fun j hj => by
    rw [(IsC.new w4 35 #[.int .i64 1, .slice none 0 0, .int .i64 1, .slice none 0 0]).cell (0 + j * 2), (IsC.new w4 35 #[.int .i64 1, .slice none 0 0, .int .i64 1, .slice none 0 0]).cell (0 + j * 2 + 1)]
    match j, hj with
    | 0, _ => exact ⟨rfl, rfl⟩
    | 1, _ => exact ⟨rfl, rfl⟩⟩)
  rw [parts11] at c5
  have hb0 := hb.alloc hb.size (.cells #[.int .i64 1, .slice none 0 0, .int .i64 1, .slice none 0 0] 35)
  clear hb
  replace c5 := Lib.hid c5
  replace hb0 := Lib.hid hb0
  go_wp2_with fail
  refine c5.out.mono ?_
  rintro e w5 ⟨rfl, hb1⟩
  have hb := below_up hb0.out hb0.out.size hb1
  clear hb1 hb0 c5
  have c6 := text_c 10 (by decide)
  have c7 := len_c 10 (by decide)
  have c8 := has_c 10 (by decide) 3
  have c9 := has_c 10 (by decide) 2
  have c10 := text_c 0 (by decide)
  rw [text10] at c6
  rw [ids10] at c7
  rw [show has 10 3 = true by decide] at c8
  rw [show has 10 2 = false by decide] at c9
  rw [text0] at c10
  replace c6 := Lib.hid c6
  replace c7 := Lib.hid c7
  replace c8 := Lib.hid c8
  replace c9 := Lib.hid c9
  replace c10 := Lib.hid c10
  replace hb := Lib.hid hb
  have e1 : ((text [49, 43, 51]).toList == [49, 43, 51]) = true := by rw [toList_byts, byts_text]; exact beq_self_eq_true _
  have e2 : ((text [45]).toList == [45]) = true := by rw [toList_byts, byts_text]; exact beq_self_eq_true _
  go_wp2_with fail
  refine (c6.out.on _).mono ?_
  rintro e w6 ⟨rfl, hb1⟩
  have hb2 := Lib.hid (below_up hb.out hb.out.size hb1)
  clear hb1 hb
  go_wp2_with fail
  refine (c7.out.on _).mono ?_
  rintro e w7 ⟨rfl, hb1⟩
  have hb := Lib.hid (below_up hb2.out hb2.out.size hb1)
  clear hb1 hb2
  go_wp2_with fail
  refine (c8.out.on _).mono ?_
  rintro e w8 ⟨rfl, rfl⟩
  go_wp2_with fail
  refine (c9.out.on _).mono ?_
  rintro e w8 ⟨rfl, rfl⟩
  go_wp2_with fail
  refine (c10.out.on _).mono ?_
  rintro e w8 ⟨rfl, hb1⟩
  have hb2 := below_up hb.out hb.out.size hb1
  clear hb1
  go_wp2_with fail
  go_ret
  exact ⟨rfl, hb2⟩
end Go.Proofs.YtmikhngmclngiaaDoor
