/- the walk over what the document fixes by number -/
import Derived.Test.YtbfigpollacngaaDoorWvF
namespace Go.Proofs.YtbfigpollacngaaDoor
open Go.RowKit
open Rf
open Wide
attribute [local go_sem ↓] Go.wp_at_zero Go.wp_at_succ

def tGreat : ByteArray := ⟨#[45, 49, 55, 48, 49, 52, 49, 49, 56, 51, 52, 54, 48, 52, 54, 57, 50, 51, 49, 55, 51, 49, 54, 56, 55, 51, 48, 51, 55, 49, 53, 56, 56, 52, 49, 48, 53, 55, 50, 55]⟩
def tOver : ByteArray := ⟨#[49, 55, 48, 49, 52, 49, 49, 56, 51, 52, 54, 48, 52, 54, 57, 50, 51, 49, 55, 51, 49, 54, 56, 55, 51, 48, 51, 55, 49, 53, 56, 56, 52, 49, 48, 53, 55, 50, 56]⟩
theorem q_seven : quoF (mk (-7)) (mk 2) = (mk (-3), 0) := by
  unfold quoF
  rw [if_pos (by decide)]
  rfl
theorem r_seven : remF (mk (-7)) (mk 2) = (mk (-1), 0) := by
  unfold remF
  rw [if_pos (by decide)]
  rfl
set_option maxRecDepth 100000 in
theorem p_great : parseF (byts tGreat) = (mk (-170141183460469231731687303715884105727), 0) := by
  have e1 : digOf (byts tGreat) = (byts tGreat).tail := rfl
  have e2 : valD (byts tGreat).tail = 170141183460469231731687303715884105727 := by decide +kernel
  have e3 : isDigs (byts tGreat).tail = true := by decide +kernel
  unfold parseF
  rw [e1, e3, e2, if_neg (by rintro (h | ⟨h, _⟩); · cases h
                             · revert h; decide +kernel), if_neg (by decide +kernel), if_pos (by decide)]
  rfl
set_option maxRecDepth 100000 in
theorem p_over : parseF (byts tOver) = (zero, 3) := by
  have e1 : digOf (byts tOver) = byts tOver := rfl
  have e2 : valD (byts tOver) = 170141183460469231731687303715884105728 := by decide +kernel
  have e3 : isDigs (byts tOver) = true := by decide +kernel
  unfold parseF
  rw [e1, e3, e2, if_neg (by rintro (h | ⟨h, _⟩); · cases h
                             · revert h; decide +kernel), if_neg (by decide +kernel), if_neg (by decide)]
theorem p_nil : parseF (byts ⟨#[45, 48]⟩) = (zero, 4) := by
  have e1 : digOf (byts ⟨#[45, 48]⟩) = [48] := rfl
  unfold parseF
  rw [e1, if_pos (.inr ⟨rfl, by decide⟩)]
set_option maxRecDepth 100000 in
theorem t_great : text (textF (mk (-170141183460469231731687303715884105727))) = tGreat := by
  have e : digs 170141183460469231731687303715884105727 = (byts tGreat).tail := by decide +kernel
  unfold textF
  rw [if_pos (by decide +kernel), if_pos (by decide +kernel)]
  have e2 : (mk (-170141183460469231731687303715884105727)).sz.toNat = 170141183460469231731687303715884105727 := by decide +kernel
  rw [e2, e]
  rfl

theorem isN_of {w w' : World} {b : Nat} {x : WI} (hb : Below w.heap.size w w') (h : IsN w b x) : IsN w' b x := h.below hb
theorem of_a (n : Int) (h0 : -9223372036854775808 ≤ n) (h1 : n ≤ 9223372036854775807) (w : World) : Calls Tryd.prog 20 #[.int .i64 n] w fun e w' => e = .returned (.agg #[.bool (mk n).n, .int .u64 (mk n).h, .int .u64 (mk n).l]) ∧ Below w.heap.size w w' := of_c n h0 h1 w
theorem isN_new2 {w w' : World} {x : WI} (hb : Below (w.alloc (oN x)).heap.size (w.alloc (oN x)) w') : IsN w' w.heap.size x := (IsN.new w x).below hb
theorem below_new2 {B : Nat} {w0 w w' : World} {x : WI} (h : Below B w0 w) (hs : B ≤ w.heap.size) (hb : Below (w.alloc (oN x)).heap.size (w.alloc (oN x)) w') : Below B w0 w' := (h.alloc hs _).trans (hb.mono (by rw [size_alloc]; omega))

set_option maxRecDepth 10000 in
set_option maxHeartbeats 8000000 in
theorem awake_c (w : World) : Calls Tryd.prog 9 #[] w fun e w' => e = .returned (.bool true) ∧ Below w.heap.size w w' := by
  have cq := quo_c (mk (-7)) (mk 2) (by exact mk_ok _ (by decide)) (by exact mk_ok _ (by decide))
  rw [q_seven] at cq
  have cr := rem_c (mk (-7)) (mk 2) (by exact mk_ok _ (by decide)) (by exact mk_ok _ (by decide))
  rw [r_seven] at cr
  have cp := parse_c tGreat (by unfold maxLen; decide)
  rw [p_great] at cp
  have cp2 := parse_c tOver (by unfold maxLen; decide)
  rw [p_over] at cp2
  have cp3 := parse_c ⟨#[45, 48]⟩ (by unfold maxLen; decide)
  rw [p_nil] at cp3
  have ct := text_c (mk (-170141183460469231731687303715884105727)) (mk_ok _ (by decide))
  rw [t_great] at ct
  have m5 : (mk 5).n = false := rfl
  have m6 : (mk 5).h = 0 := rfl
  have m7 : (mk 5).l = 5 := rfl
  unfold tGreat at cp ct
  unfold tOver at cp2
  unfold zero at cp2 cp3
  unfold wv at cq cr cp cp2 cp3 ct
  dsimp only at cq cr cp cp2 cp3 ct
  replace cq := Lib.hid cq
  replace cr := Lib.hid cr
  replace cp := Lib.hid cp
  replace cp2 := Lib.hid cp2
  replace cp3 := Lib.hid cp3
  replace ct := Lib.hid ct
  go_enter Tryd.func9, Tryd.ntmps9
  go_wp2_with fail
  refine (of_a _ (by decide) (by decide) _).mono ?_
  rintro e w1 ⟨rfl, hb⟩
  have hs := hb.size
  replace hb := Lib.hid hb
  go_wp2_with fail
  refine (of_a _ (by decide) (by decide) _).mono ?_
  rintro e w2 ⟨rfl, hb2⟩
  replace hb2 := Lib.hid (hb.out.trans (hb2.mono hs))
  have hs2 := hb2.out.size
  clear hb hs
  go_wp2_with fail
  refine (cq.out _).mono ?_
  rintro e w3 ⟨rfl, hb3⟩
  replace hb3 := Lib.hid (hb2.out.trans (hb3.mono hs2))
  have hs3 := hb3.out.size
  clear hb2 hs2
  go_wp2_with fail
  refine (of_a _ (by decide) (by decide) _).mono ?_
  rintro e w4 ⟨rfl, hb4⟩
  have gC := Lib.hid (isN_new2 (x := mk (-3)) hb4)
  replace hb4 := Lib.hid (below_new2 (x := mk (-3)) hb3.out hs3 hb4)
  have hs4 := hb4.out.size
  clear hb3
  go_wp2_with fail
  refine (of_a _ (by decide) (by decide) _).mono ?_
  rintro e w5 ⟨rfl, hb5⟩
  replace gC := Lib.hid (isN_of hb5 gC.out)
  replace hb5 := Lib.hid (hb4.out.trans (hb5.mono hs4))
  have hs5 := hb5.out.size
  clear hb4 hs4
  go_wp2_with fail
  refine (cr.out _).mono ?_
  rintro e w6 ⟨rfl, hb6⟩
  replace gC := Lib.hid (isN_of hb6 gC.out)
  replace hb6 := Lib.hid (hb5.out.trans (hb6.mono hs5))
  have hs6 := hb6.out.size
  clear hb5 hs5
  go_wp2_with fail
  refine (cp.out _).mono ?_
  rintro e w7 ⟨rfl, hb7⟩
  have gE := Lib.hid (isN_new2 (x := mk (-1)) hb7)
  replace gC := Lib.hid (isN_of hb7 (gC.out.alloc _))
  replace hb7 := Lib.hid (below_new2 (x := mk (-1)) hb6.out hs6 hb7)
  have hs7 := hb7.out.size
  clear hb6
  go_wp2_with fail
  refine (cp2.out _).mono ?_
  rintro e w8 ⟨rfl, hb8⟩
  have gG := Lib.hid (isN_new2 (x := mk (-170141183460469231731687303715884105727)) hb8)
  replace gC := Lib.hid (isN_of hb8 (gC.out.alloc _))
  replace gE := Lib.hid (isN_of hb8 (gE.out.alloc _))
  replace hb8 := Lib.hid (below_new2 (x := mk (-170141183460469231731687303715884105727)) hb7.out hs7 hb8)
  have hs8 := hb8.out.size
  clear hb7
  go_wp2_with fail
  refine (cp3.out _).mono ?_
  rintro e w9 ⟨rfl, hb9⟩
  replace gC := Lib.hid (isN_of hb9 (gC.out.alloc _))
  replace gE := Lib.hid (isN_of hb9 (gE.out.alloc _))
  replace gG := Lib.hid (isN_of hb9 (gG.out.alloc _))
  replace hb9 := Lib.hid (below_new2 (x := ⟨false, 0, 0⟩) hb8.out hs8 hb9)
  have hs9 := hb9.out.size
  clear hb8
  replace gC := Lib.hid (gC.out.alloc (oN ⟨false, 0, 0⟩))
  replace gE := Lib.hid (gE.out.alloc (oN ⟨false, 0, 0⟩))
  replace gG := Lib.hid (gG.out.alloc (oN ⟨false, 0, 0⟩))
  have hbw := Lib.hid (below_drewed (hb9.out.alloc hs9 (oN ⟨false, 0, 0⟩)))
  clear hb9
  obtain ⟨a0, a1, a2⟩ := gC.out.all
  obtain ⟨e0, e1, e2⟩ := gE.out.all
  obtain ⟨g0, g1, g2⟩ := gG.out.all
  go_wp2_with fail
  go_region_held3 (fun w1 => w1.cell? ⟨w3.heap.size, 0, none⟩ = some (.bool (mk (-3)).n) ∧ w1.cell? ⟨w3.heap.size, 1, none⟩ = some (.int .u64 (mk (-3)).h) ∧ w1.cell? ⟨w3.heap.size, 2, none⟩ = some (.int .u64 (mk (-3)).l) ∧
      w1.cell? ⟨w6.heap.size, 0, none⟩ = some (.bool (mk (-1)).n) ∧ w1.cell? ⟨w6.heap.size, 1, none⟩ = some (.int .u64 (mk (-1)).h) ∧ w1.cell? ⟨w6.heap.size, 2, none⟩ = some (.int .u64 (mk (-1)).l) ∧
      w1.cell? ⟨w7.heap.size, 0, none⟩ = some (.bool (mk (-170141183460469231731687303715884105727)).n) ∧ w1.cell? ⟨w7.heap.size, 1, none⟩ = some (.int .u64 (mk (-170141183460469231731687303715884105727)).h) ∧ w1.cell? ⟨w7.heap.size, 2, none⟩ = some (.int .u64 (mk (-170141183460469231731687303715884105727)).l)) (go_keep)
    (first
      | (go_at_call 20
         refine (of_a _ (by decide) (by decide) _).mono ?_
         rintro e w10 ⟨rfl, hb10⟩
         have hbw2 := Lib.hid (hbw.out.trans (hb10.mono hbw.out.size))
         clear hbw
         have hbw := hbw2
         clear hbw2
         have gC2 := Lib.hid (isN_of hb10 gC.out)
         have gE2 := Lib.hid (isN_of hb10 gE.out)
         have gG2 := Lib.hid (isN_of hb10 gG.out)
         clear gC gE gG a0 a1 a2 e0 e1 e2 g0 g1 g2
         have gC := gC2
         have gE := gE2
         have gG := gG2
         clear gC2 gE2 gG2
         obtain ⟨a0, a1, a2⟩ := gC.out.all
         obtain ⟨e0, e1, e2⟩ := gE.out.all
         obtain ⟨g0, g1, g2⟩ := gG.out.all
         clear hb10)
      | (go_at_call 16
         refine (ct.out _).mono ?_
         rintro e w10 ⟨rfl, hb10⟩
         have hbw2 := Lib.hid (hbw.out.trans (hb10.mono hbw.out.size))
         clear hbw
         have hbw := hbw2
         clear hbw2
         have gC2 := Lib.hid (isN_of hb10 gC.out)
         have gE2 := Lib.hid (isN_of hb10 gE.out)
         have gG2 := Lib.hid (isN_of hb10 gG.out)
         clear gC gE gG a0 a1 a2 e0 e1 e2 g0 g1 g2
         have gC := gC2
         have gE := gE2
         have gG := gG2
         clear gC2 gE2 gG2
         obtain ⟨a0, a1, a2⟩ := gC.out.all
         obtain ⟨e0, e1, e2⟩ := gE.out.all
         obtain ⟨g0, g1, g2⟩ := gG.out.all
         clear hb10))
  all_goals
    go_wp2_with fail
    go_ret
    exact ⟨rfl, hbw.out⟩
end Go.Proofs.YtbfigpollacngaaDoor
