/- the walks over package field, second part: sizes, names, bounds -/
import Derived.Test.YtbfigpollacngaaFd1
namespace Go.Proofs.Ytbfigpollacngaa
open Go.RowKit
open Rf
open Wide

theorem field_name (nm : ByteArray) (sz : Int) (sg : Bool) (w : World) : (Instr.field 56 (.agg #[.string nm, .int .i64 sz, .bool sg]) 0).run Try.prog w = .ok (.string nm) w := by kernel_rfl
theorem field_size (nm : ByteArray) (sz : Int) (sg : Bool) (w : World) : (Instr.field 56 (.agg #[.string nm, .int .i64 sz, .bool sg]) 1).run Try.prog w = .ok (.int .i64 sz) w := by kernel_rfl
theorem field_sign (nm : ByteArray) (sz : Int) (sg : Bool) (w : World) : (Instr.field 56 (.agg #[.string nm, .int .i64 sz, .bool sg]) 2).run Try.prog w = .ok (.bool sg) w := by kernel_rfl
theorem sizeK_c (k : Int) (w : World) : Calls Try.prog 15 #[.int .i64 k] w fun e w' => e = .returned (.int .i64 (shp k).2.1) ∧ Below w.heap.size w w' := by
  have c := Lib.hid (shape_c k)
  generalize shp k = q at *
  obtain ⟨nm, sz, sg⟩ := q
  dsimp only at *
  go_enter Try.func15, Try.ntmps15
  go_wp2_with fail
  refine (c.out _).mono ?_
  rintro e w1 ⟨rfl, hb⟩
  have hfd := field_size nm sz sg
  go_wp2_with fail
  go_ret
  exact ⟨rfl, hb⟩
theorem nameK_c (k : Int) (w : World) : Calls Try.prog 16 #[.int .i64 k] w fun e w' => e = .returned (.string (shp k).1) ∧ Below w.heap.size w w' := by
  have c := Lib.hid (shape_c k)
  generalize shp k = q at *
  obtain ⟨nm, sz, sg⟩ := q
  dsimp only at *
  go_enter Try.func16, Try.ntmps16
  go_wp2_with fail
  refine (c.out _).mono ?_
  rintro e w1 ⟨rfl, hb⟩
  have hfd := field_name nm sz sg
  go_wp2_with fail
  go_ret
  exact ⟨rfl, hb⟩

/-- the greatest number of a kind; the least -/
def gK (k : Int) : Int := if k = 1 then 1 else if k = 2 then 127 else if k = 3 then 32767 else if k = 4 then 2147483647 else if k = 5 then 9223372036854775807 else if k = 6 then 255
  else if k = 7 then 65535 else if k = 8 then 4294967295 else if k = 9 then 18446744073709551615 else if k = 10 then 18446744073709551615 else 0
def lK (k : Int) : Int := if (shp k).2.2 = true then - gK k - 1 else 0
theorem gK_none {k : Int} (h : isK k = false) : gK k = 0 := by
  unfold isK at h
  rw [Bool.and_eq_false_iff, decide_eq_false_iff_not, decide_eq_false_iff_not] at h
  unfold gK
  repeat rw [if_neg (by omega)]
theorem gK_bd (k : Int) : 0 ≤ gK k ∧ gK k ≤ 18446744073709551615 := by
  unfold gK
  repeat' split
  all_goals omega
end Go.Proofs.Ytbfigpollacngaa
