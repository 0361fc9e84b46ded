/- the walk over math/bits.Div64 by ten -/
import Derived.Test.YtbfigpollacngaaDoorWvW9
import Derived.Test.YtbfigpollacngaaDoorShelf
import Derived.BigQuiet
import Derived.Deep.Cut
namespace Go.Proofs.YtbfigpollacngaaDoor
open Go.RowKit
open Rf
open Wide

theorem lz10 (w : World) : Calls Tryd.prog 50 #[.int .u64 10] w fun e w' => e = .returned (.int .i64 60) ∧ w = w' :=
  (Go.Proofs.Any.bits_LeadingZeros64 Tryd.lays134 10 w (by decide) (by decide)).mono fun e w' ⟨h1, h2⟩ => ⟨by rw [h1]; rfl, h2.symm⟩

set_option maxRecDepth 10000 in
set_option maxHeartbeats 2000000 in
theorem div64_c (h l : Int) (h0 : 0 ≤ h) (h1 : h ≤ 9) (l0 : 0 ≤ l) (l1 : l ≤ 18446744073709551615) (w : World) :
    Calls Tryd.prog 39 #[.int .u64 h, .int .u64 l, .int .u64 10] w fun e w' => e = .returned (.tuple #[.int .u64 ((h * 18446744073709551616 + l) / 10), .int .u64 ((h * 18446744073709551616 + l) % 10)]) ∧ Below w.heap.size w w' := by
  by_cases hh : h = 0
  · subst hh
    have e1 : ((0 : Int) * 18446744073709551616 + l) / 10 = l / 10 := by omega
    have e2 : ((0 : Int) * 18446744073709551616 + l) % 10 = l % 10 := by omega
    rw [e1, e2]
    clear e1 e2
    go_enter Tryd.func39, Tryd.ntmps39
    go_wp2_with fail
    go_quiet (fail)
    go_wp2
    go_ret2
    exact ⟨rfl, rfl, rfl, rfl, Nat.le_refl _, fun _ _ => rfl⟩
  · have t1 : (h == 0) = false := by simpa using hh
    have a0 : bits .and .u64 11529215046068469760 4294967295 = 0 := by decide
    obtain ⟨U, hU⟩ : ∃ U, h * 1152921504606846976 + l / 16 = U := ⟨_, rfl⟩
    obtain ⟨L, hL⟩ : ∃ L, l % 16 * 1152921504606846976 = L := ⟨_, rfl⟩
    have eU : bits .or .u64 (h * 1152921504606846976) (l / 16) = U := by
      obtain ⟨H, rfl⟩ := Int.eq_ofNat_of_zero_le h0
      obtain ⟨M, rfl⟩ := Int.eq_ofNat_of_zero_le l0
      have e1 : (H : Int) * 1152921504606846976 = ((H * 1152921504606846976 : Nat) : Int) := by omega
      have e2 : (M : Int) / 16 = ((M / 16 : Nat) : Int) := by omega
      rw [e1, e2, u64_or_nat _ _ (by omega) (by omega)]
      have h := Nat.shiftLeft_add_eq_or_of_lt (b := M / 16) (i := 60) (by omega) H
      rw [Nat.shiftLeft_eq] at h
      rw [show (1152921504606846976 : Nat) = 2 ^ 60 from rfl, ← h]
      omega
    have eL : IntKind.u64.wrap (l * 1152921504606846976) = L := by simp [IntKind.wrap, IntKind.bits, IntKind.signed]; omega
    have bU : 0 ≤ U ∧ U ≤ 11529215046068469759 := by omega
    have bL : 0 ≤ L ∧ L ≤ 18446744073709551615 := by omega
    have eA : bits .and .u64 L 4294967295 = 0 := by
      obtain ⟨M, hM⟩ := Int.eq_ofNat_of_zero_le bL.1
      rw [hM, show (4294967295 : Int) = ((4294967295 : Nat) : Int) from rfl, u64_and_nat _ _ (by omega) (by decide)]
      have e : M &&& 4294967295 = M % 4294967296 := Nat.and_two_pow_sub_one_eq_mod M 32
      rw [e]
      omega
    obtain ⟨V, hV⟩ : ∃ V, U % 2684354560 * 4294967296 + L / 4294967296 = V := ⟨_, rfl⟩
    have eV : IntKind.u64.wrap (IntKind.u64.wrap (IntKind.u64.wrap (U * 4294967296) + L / 4294967296) - IntKind.u64.wrap (U / 2684354560 * 11529215046068469760)) = V := by
      simp [IntKind.wrap, IntKind.bits, IntKind.signed]; omega
    have bV : 0 ≤ V ∧ V ≤ 11529215046068469759 := by omega
    replace hU := Lib.hid hU
    replace hV := Lib.hid hV
    replace hL := Lib.hid hL
    go_enter Tryd.func39, Tryd.ntmps39
    go_wp2_with (go_at_call 50; refine (lz10 _).mono ?_; rintro e w' ⟨rfl, rfl⟩)
    go_rounds 1
    go_rounds 1
    have hU' := hU.out
    have hL' := hL.out
    have hV' := hV.out
    have r1 : U / 2684354560 * 4294967296 + V / 2684354560 = (h * 18446744073709551616 + l) / 10 := by
      clear eU eL eV eA a0
      omega
    have r2 : IntKind.u64.wrap (IntKind.u64.wrap (IntKind.u64.wrap (V * 4294967296)) - IntKind.u64.wrap (V / 2684354560 * 11529215046068469760)) / 1152921504606846976 = (h * 18446744073709551616 + l) % 10 := by
      clear eU eL eV eA a0
      simp [IntKind.wrap, IntKind.bits, IntKind.signed]
      omega
    rw [← r1, ← r2]
    clear hU' hL' hV' r1 r2
    go_ret2
    exact ⟨rfl, Below.refl _ _⟩
end Go.Proofs.YtbfigpollacngaaDoor
