/- the walks over retrofitref04, on: the bytes of a number -/
import Derived.Test.YtbfigpollacngaaFr4
import Derived.Deep.Upon
namespace Go.Proofs.Ytbfigpollacngaa
open Go.RowKit
open Rf
open Wide

set_option maxRecDepth 100000 in
set_option maxHeartbeats 4000000 in
theorem refPut_pos (k : Int) (h v : Int) (v0 : 0 ≤ v) (v1 : v ≤ 18446744073709551615) (sz : Nat) (hsz : sz ≤ 8) (cb : Ret 11 #[.int .i64 k] (.int .i64 (sz : Int))) (w : World) :
    Calls Try.prog 22 #[.int .i64 k, .agg #[.bool false, .int .u64 h, .int .u64 v]] w fun e w' => e = .returned (.string (text (le sz v))) ∧ Below w.heap.size w w' := by
  obtain ⟨i0, hi, hz0, hz1, hz2⟩ := info_parts infoU8
  go_enter Try.func22, Try.ntmps22
  go_wp2_with fail
  have hown0 := Lib.hid (ownsRow_lit (w.alloc (oN ⟨false, h, v⟩)) (w.heap.size + 1) 5 [] 0 (by rw [size_alloc]; omega) rfl (by unfold maxLen; omega))
  go_loopw [5, 6, 7] (fun n b i wr => ∃ j : Nat, j ≤ sz ∧ i = .int .i64 j ∧ n = .int .u64 (sh j v) ∧ (∃ a c, b = .slice a j c ∧ wr.ownsRow (w.heap.size + 1) 5 1 (.slice a j c) j (bv (le j v))) ∧ Below w.heap.size w wr) (fun _ _ i _ => sz - (intOf i).toNat)
  case atStart =>
    exact ⟨0, Nat.zero_le _, rfl, rfl, ⟨_, _, rfl, by have := hown0.out; rw [size_alloc] at this; exact this⟩, below2 w _ _⟩
  case round =>
    obtain ⟨j, hj, rfl, rfl, ⟨a, c, rfl, hown⟩, hbr⟩ := hrel
    clear hown0
    have hb := sh_bd j v _ v0 v1
    replace hown := Lib.hid hown
    replace hbr := Lib.hid hbr
    have hs := hbr.out.size
    by_cases hlt : j < sz
    · have hby : ((UInt8.ofNat (sh j v % 256).toNat).toNat : Int) = sh j v % 256 := byte_back _ (by omega) (by omega)
      replace hby := Lib.hid hby
      obtain ⟨q, hq⟩ : ∃ q, sh j v = q := ⟨_, rfl⟩
      rw [hq] at hby hb
      rw [hq]
      replace hq := Lib.hid hq
      go_wp2_with fail
      refine (cb.on _).mono ?_
      rintro e w1 ⟨rfl, hb1⟩
      have hown1 := hown.out.kept (row := none) ⟨hb1.os, hb1.tape, hb1.output, hb1.size, fun k hk _ => hb1.block k hk⟩ (by cases (Value.slice a j c).ownBlock <;> simp)
      replace hbr := Lib.hid (hbr.out.trans (hb1.mono hs))
      clear hs hb1 hown
      have hs := hbr.out.size
      have hsrc : Src Try.prog 1 68 (.slice (some ⟨w1.heap.size, 0, none⟩) 1 1) 1 [.int .u8 (q % 256)] (w1.alloc (.cells #[.int .u8 (q % 256)] 5)) :=
        Src.ofSlice _ Try.underlying68 ⟨w1.heap.size, 0, none⟩ 1 1 _ rfl (cell_one_new _ _ _) (by intro u hu; simp at hu; subst hu; rfl)
      replace hown1 := Lib.hid hown1
      go_wp2_with (at_builtin; refine wpList_append_own_src _ rfl (.tmp 22) (.tmp 26) 68 68 rfl (w.heap.size + 1) 5 i0 (.int .u8 0) 1 1 Try.underlying68 hi hz0 hz1 hz2 rfl rfl (hown1.out.alloc _) rfl hsrc ?_ ?_ ?_ ?_)
      · unfold maxLen; omega
      · omega
      · rw [size_alloc]; omega
      intro b' c' w2 hown2 hg1
      have hfin := Lib.hid (Below.grown (hbr.out.alloc hs (.cells #[.int .u8 (q % 256)] 5)) hg1 (by rw [size_alloc]; omega) (fun k hk => by have := hown1.out.lt k hk; omega))
      rw [show ([.int .u8 (q % 256)] : List Value) = bv [UInt8.ofNat (q % 256).toNat] from by rw [bv_one, hby.out]] at hown2
      replace hown2 := Lib.hid hown2
      clear hg1 hsrc hown1 hbr
      go_wp2_with fail
      go_roundw
      case rel => exact ⟨j + 1, by omega, by go_num, by rw [sh, hq.out], ⟨b', c', rfl, by rw [le, hq.out, bv_append]; exact hown2.out⟩, hfin.out⟩
      case measure => simp [intOf]; omega
    · obtain rfl : j = sz := by omega
      go_wp2_with fail
      refine (cb.on _).mono ?_
      rintro e w1 ⟨rfl, hb1⟩
      have hown1 := hown.out.kept (row := none) ⟨hb1.os, hb1.tape, hb1.output, hb1.size, fun k hk _ => hb1.block k hk⟩ (by cases (Value.slice a j c).ownBlock <;> simp)
      have hr := run_string_own w1 68 9 5 Try.underlying68 Try.underlying5 Try.underlying9 hown1
      clear hown1 hown
      go_wp2_with fail
      go_ret
      exact ⟨rfl, hbr.out.trans (hb1.mono hs)⟩
set_option maxRecDepth 100000 in
set_option maxHeartbeats 4000000 in
theorem refPut_neg (k : Int) (h l v : Int) (hv : IntKind.u64.wrap (-l) = v) (v0 : 0 ≤ v) (v1 : v ≤ 18446744073709551615) (sz : Nat) (hsz : sz ≤ 8) (cb : Ret 11 #[.int .i64 k] (.int .i64 (sz : Int))) (w : World) :
    Calls Try.prog 22 #[.int .i64 k, .agg #[.bool true, .int .u64 h, .int .u64 l]] w fun e w' => e = .returned (.string (text (le sz v))) ∧ Below w.heap.size w w' := by
  have hv0 := Lib.hid hv
  clear hv
  obtain ⟨i0, hi, hz0, hz1, hz2⟩ := info_parts infoU8
  go_enter Try.func22, Try.ntmps22
  go_wp2_with fail
  rw [hv0.out]
  have hown0 := Lib.hid (ownsRow_lit (w.alloc (oN ⟨true, h, l⟩)) (w.heap.size + 1) 5 [] 0 (by rw [size_alloc]; omega) rfl (by unfold maxLen; omega))
  go_loopw [5, 6, 7] (fun n b i wr => ∃ j : Nat, j ≤ sz ∧ i = .int .i64 j ∧ n = .int .u64 (sh j v) ∧ (∃ a c, b = .slice a j c ∧ wr.ownsRow (w.heap.size + 1) 5 1 (.slice a j c) j (bv (le j v))) ∧ Below w.heap.size w wr) (fun _ _ i _ => sz - (intOf i).toNat)
  case atStart =>
    exact ⟨0, Nat.zero_le _, rfl, rfl, ⟨_, _, rfl, by have := hown0.out; rw [size_alloc] at this; exact this⟩, below2 w _ _⟩
  case round =>
    obtain ⟨j, hj, rfl, rfl, ⟨a, c, rfl, hown⟩, hbr⟩ := hrel
    clear hown0
    have hb := sh_bd j v _ v0 v1
    replace hown := Lib.hid hown
    replace hbr := Lib.hid hbr
    have hs := hbr.out.size
    by_cases hlt : j < sz
    · have hby : ((UInt8.ofNat (sh j v % 256).toNat).toNat : Int) = sh j v % 256 := byte_back _ (by omega) (by omega)
      replace hby := Lib.hid hby
      obtain ⟨q, hq⟩ : ∃ q, sh j v = q := ⟨_, rfl⟩
      rw [hq] at hby hb
      rw [hq]
      replace hq := Lib.hid hq
      go_wp2_with fail
      refine (cb.on _).mono ?_
      rintro e w1 ⟨rfl, hb1⟩
      have hown1 := hown.out.kept (row := none) ⟨hb1.os, hb1.tape, hb1.output, hb1.size, fun k hk _ => hb1.block k hk⟩ (by cases (Value.slice a j c).ownBlock <;> simp)
      replace hbr := Lib.hid (hbr.out.trans (hb1.mono hs))
      clear hs hb1 hown
      have hs := hbr.out.size
      have hsrc : Src Try.prog 1 68 (.slice (some ⟨w1.heap.size, 0, none⟩) 1 1) 1 [.int .u8 (q % 256)] (w1.alloc (.cells #[.int .u8 (q % 256)] 5)) :=
        Src.ofSlice _ Try.underlying68 ⟨w1.heap.size, 0, none⟩ 1 1 _ rfl (cell_one_new _ _ _) (by intro u hu; simp at hu; subst hu; rfl)
      replace hown1 := Lib.hid hown1
      go_wp2_with (at_builtin; refine wpList_append_own_src _ rfl (.tmp 22) (.tmp 26) 68 68 rfl (w.heap.size + 1) 5 i0 (.int .u8 0) 1 1 Try.underlying68 hi hz0 hz1 hz2 rfl rfl (hown1.out.alloc _) rfl hsrc ?_ ?_ ?_ ?_)
      · unfold maxLen; omega
      · omega
      · rw [size_alloc]; omega
      intro b' c' w2 hown2 hg1
      have hfin := Lib.hid (Below.grown (hbr.out.alloc hs (.cells #[.int .u8 (q % 256)] 5)) hg1 (by rw [size_alloc]; omega) (fun k hk => by have := hown1.out.lt k hk; omega))
      rw [show ([.int .u8 (q % 256)] : List Value) = bv [UInt8.ofNat (q % 256).toNat] from by rw [bv_one, hby.out]] at hown2
      replace hown2 := Lib.hid hown2
      clear hg1 hsrc hown1 hbr
      go_wp2_with fail
      go_roundw
      case rel => exact ⟨j + 1, by omega, by go_num, by rw [sh, hq.out], ⟨b', c', rfl, by rw [le, hq.out, bv_append]; exact hown2.out⟩, hfin.out⟩
      case measure => simp [intOf]; omega
    · obtain rfl : j = sz := by omega
      go_wp2_with fail
      refine (cb.on _).mono ?_
      rintro e w1 ⟨rfl, hb1⟩
      have hown1 := hown.out.kept (row := none) ⟨hb1.os, hb1.tape, hb1.output, hb1.size, fun k hk _ => hb1.block k hk⟩ (by cases (Value.slice a j c).ownBlock <;> simp)
      have hr := run_string_own w1 68 9 5 Try.underlying68 Try.underlying5 Try.underlying9 hown1
      clear hown1 hown
      go_wp2_with fail
      go_ret
      exact ⟨rfl, hbr.out.trans (hb1.mono hs)⟩
end Go.Proofs.Ytbfigpollacngaa
