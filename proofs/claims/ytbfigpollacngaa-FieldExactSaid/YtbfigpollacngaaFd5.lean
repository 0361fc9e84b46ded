/- the walks over package field, fifth part: a number's bytes -/
import Derived.Test.YtbfigpollacngaaFd4
import Derived.Test.YtbfigpollacngaaFOctR2
namespace Go.Proofs.Ytbfigpollacngaa
open Go.RowKit
open Rf
open Wide

/-- the bytes of a number that fits -/
def putF (k v : Int) : List UInt8 := le (shp k).2.1.toNat (v % 256 ^ (shp k).2.1.toNat)
theorem lK_low (k : Int) : -9223372036854775808 ≤ lK k := by
  rcases kinds k with rfl | rfl | rfl | rfl | rfl | rfl | rfl | rfl | rfl | rfl | ⟨_, h2⟩
  all_goals first | decide | skip
  unfold lK
  rw [h2, if_neg (by decide)]
  decide
theorem size_of {k : Int} (h : isK k = true) : (shp k).2.1 = 1 ∨ (shp k).2.1 = 2 ∨ (shp k).2.1 = 4 ∨ (shp k).2.1 = 8 := by
  rcases kinds k with rfl | rfl | rfl | rfl | rfl | rfl | rfl | rfl | rfl | rfl | ⟨h1, _⟩
  all_goals first | decide | skip
  rw [h1] at h; cases h
theorem and_mask (a : Int) (h0 : 0 ≤ a) (h1 : a ≤ 18446744073709551615) (sz : Int) (hs : sz = 1 ∨ sz = 2 ∨ sz = 4 ∨ sz = 8) : bits .and .u64 a (powK (sz * 8)) = a % 256 ^ sz.toNat := by
  obtain ⟨n, rfl⟩ := Int.eq_ofNat_of_zero_le h0
  rcases hs with rfl | rfl | rfl | rfl
  · show bits .and .u64 (n : Int) ((255 : Nat) : Int) = _
    rw [u64_and_nat _ _ (by omega) (by decide), show (255 : Nat) = 2 ^ 8 - 1 from rfl, Nat.and_two_pow_sub_one_eq_mod]
    rfl
  · show bits .and .u64 (n : Int) ((65535 : Nat) : Int) = _
    rw [u64_and_nat _ _ (by omega) (by decide), show (65535 : Nat) = 2 ^ 16 - 1 from rfl, Nat.and_two_pow_sub_one_eq_mod]
    rfl
  · show bits .and .u64 (n : Int) ((4294967295 : Nat) : Int) = _
    rw [u64_and_nat _ _ (by omega) (by decide), show (4294967295 : Nat) = 2 ^ 32 - 1 from rfl, Nat.and_two_pow_sub_one_eq_mod]
    rfl
  · show bits .and .u64 (n : Int) ((18446744073709551615 : Nat) : Int) = _
    rw [u64_and_nat _ _ (by omega) (by decide), show (18446744073709551615 : Nat) = 2 ^ 64 - 1 from rfl, Nat.and_two_pow_sub_one_eq_mod]
    rfl
theorem wrap_mod (l : Int) (sz : Int) (hs : sz = 1 ∨ sz = 2 ∨ sz = 4 ∨ sz = 8) : ((-l) % 18446744073709551616) % 256 ^ sz.toNat = (-l) % 256 ^ sz.toNat := by
  rcases hs with rfl | rfl | rfl | rfl
  · show ((-l) % 18446744073709551616) % 256 = (-l) % 256; omega
  · show ((-l) % 18446744073709551616) % 65536 = (-l) % 65536; omega
  · show ((-l) % 18446744073709551616) % 4294967296 = (-l) % 4294967296; omega
  · show ((-l) % 18446744073709551616) % 18446744073709551616 = (-l) % 18446744073709551616; omega
theorem ok_mod (v : Int) (sz : Int) (hs : sz = 1 ∨ sz = 2 ∨ sz = 4 ∨ sz = 8) : okNum sz (v % 256 ^ sz.toNat) = true ∧ 0 ≤ v % 256 ^ sz.toNat ∧ v % 256 ^ sz.toNat ≤ 18446744073709551615 := by
  unfold okNum
  rcases hs with rfl | rfl | rfl | rfl
  · show (isW 1 && (sh 1 (v % 256) == 0)) = true ∧ 0 ≤ v % 256 ∧ v % 256 ≤ 18446744073709551615
    rw [sh1, show v % 256 / 256 = 0 by omega]
    exact ⟨rfl, by omega, by omega⟩
  · show (isW 2 && (sh 2 (v % 65536) == 0)) = true ∧ 0 ≤ v % 65536 ∧ v % 65536 ≤ 18446744073709551615
    rw [sh2, show v % 65536 / 65536 = 0 by omega]
    exact ⟨rfl, by omega, by omega⟩
  · show (isW 4 && (sh 4 (v % 4294967296) == 0)) = true ∧ 0 ≤ v % 4294967296 ∧ v % 4294967296 ≤ 18446744073709551615
    rw [sh4, show v % 4294967296 / 4294967296 = 0 by omega]
    exact ⟨rfl, by omega, by omega⟩
  · show (isW 8 && (sh 8 (v % 18446744073709551616) == 0)) = true ∧ 0 ≤ v % 18446744073709551616 ∧ v % 18446744073709551616 ≤ 18446744073709551615
    rw [sh8, show v % 18446744073709551616 / 18446744073709551616 = 0 by omega]
    exact ⟨rfl, by omega, by omega⟩
/-- a number that fits has one word -/
theorem fits_word {k : Int} {x : WI} (ho : x.Ok) (h : fitsF k x = true) : x.h = 0 ∧ x.val = if x.n = true then - x.l else x.l := by
  unfold fitsF at h
  simp only [Bool.and_eq_true, decide_eq_true_eq] at h
  have h1 := lK_low k
  have h2 := gK_bd k
  obtain ⟨o1, o2, o3, o4⟩ := ho
  unfold WI.val WI.sz at *
  split at h <;> rename_i hn <;> (refine ⟨by omega, ?_⟩; first | rw [if_pos hn, if_pos hn] | rw [if_neg hn, if_neg hn]) <;> omega

set_option maxRecDepth 10000 in
set_option maxHeartbeats 4000000 in
theorem put_yes (k : Int) (x : WI) (ho : x.Ok) (hk : isK k = true) (hfit : fitsF k x = true) (w : World) :
    Calls Try.prog 20 #[.int .i64 k, wv x] w fun e w' => e = .returned (.tuple #[.string (text (putF k x.val)), .int .i64 0]) ∧ Below w.heap.size w w' := by
  have ci := kindB k
  rw [hk] at ci
  have cf := fits_c k x ho
  rw [hfit] at cf
  have cs := sizeK_c k
  obtain ⟨hh, hv⟩ := fits_word ho hfit
  have hsz := size_of hk
  have cp := power_c ((shp k).2.1 * 8) (by omega)
  obtain ⟨hok, hm0, hm1⟩ := ok_mod x.val _ hsz
  have hcn := fun {B : Nat} {w : World} {b : Nat} (hw : IsW B w b []) => num_c hw (shp k).2.1 (x.val % 256 ^ (shp k).2.1.toNat) hm0 hm1 (by decide)
  simp only [hok, if_true, List.nil_append] at hcn
  have hsz2 : -9 ≤ (shp k).2.1 ∧ (shp k).2.1 ≤ 9 := by omega
  unfold putF
  obtain ⟨n, h, l⟩ := x
  dsimp only at hh hv
  subst hh
  obtain ⟨-, -, o3, o4⟩ := ho
  dsimp only at o3 o4
  have key : (n = true → bits .and .u64 (IntKind.u64.wrap (-l)) (powK ((shp k).2.1 * 8)) = (⟨n, 0, l⟩ : WI).val % 256 ^ (shp k).2.1.toNat) ∧ (n = false → bits .and .u64 l (powK ((shp k).2.1 * 8)) = (⟨n, 0, l⟩ : WI).val % 256 ^ (shp k).2.1.toNat) := by
    refine ⟨fun hn => ?_, fun hn => ?_⟩
    · rw [hv, if_pos hn]
      have e : IntKind.u64.wrap (-l) = (-l) % 18446744073709551616 := by simp [IntKind.wrap, IntKind.bits, IntKind.signed]
      rw [e, and_mask _ (by omega) (by omega) _ hsz, wrap_mod _ _ hsz]
    · rw [hv, if_neg (by rw [hn]; decide), and_mask _ o3 o4 _ hsz]
  clear hv hok hm0 hm1 hsz hfit hk
  generalize (⟨n, 0, l⟩ : WI).val % 256 ^ (shp k).2.1.toNat = m at *
  generalize powK ((shp k).2.1 * 8) = P at *
  generalize (shp k).2.1 = sz at *
  unfold wv at *
  dsimp only at *
  replace ci := Lib.hid ci
  replace cf := Lib.hid cf
  replace cs := Lib.hid cs
  replace cp := Lib.hid cp
  cases n with
  | false =>
    have kk := key.2 rfl
    clear key
    go_enter Try.func20, Try.ntmps20
    go_wp2_with fail
    refine (ci.out _).mono ?_
    rintro e w1 ⟨rfl, hb1⟩
    obtain ⟨gx, hb⟩ := one_new (x := ⟨false, 0, l⟩) hb1
    have hs := hb.size
    clear hb1
    obtain ⟨x0, x1, x2⟩ := gx.all
    dsimp only at x0 x1 x2
    go_wp2_with fail
    refine (cf.out _).mono ?_
    rintro e w2 ⟨rfl, hb2⟩
    replace gx := gx.below hb2
    replace hb := hb.trans (hb2.mono hs)
    clear hs hb2 x0 x1 x2
    have hs := hb.size
    obtain ⟨x0, x1, x2⟩ := gx.all
    dsimp only at x0 x1 x2
    clear gx
    replace hb := Lib.hid hb
    go_wp2_with fail
    refine (cs.out _).mono ?_
    rintro e w3 ⟨rfl, hb3⟩
    have hw3 := (IsW.new w2.heap.size w2 (Nat.le_refl _)).below hb3
    replace hb := Lib.hid ((hb.out.alloc hs _).trans (hb3.mono (by rw [size_alloc]; omega)))
    have hs3 := hb.out.size
    clear hb3 x0 x1 x2
    go_wp2_with fail
    refine (cs.out _).mono ?_
    rintro e w4 ⟨rfl, hb4⟩
    have hw4 := hw3.below hb4
    replace hb := Lib.hid (hb.out.trans (hb4.mono hs3))
    clear hb4 hw3 hs3
    go_wp2_with fail
    refine (cp.out _).mono ?_
    rintro e w5 ⟨rfl, rfl⟩
    go_wp2_with fail
    refine (hcn hw4).mono ?_
    rintro e w6 ⟨rfl, hw6, hb6⟩
    replace hb := Lib.hid (hb.out.trans (hb6.mono hs))
    clear hb6 hw4
    go_wp2_with fail
    refine (string_c hw6).mono ?_
    rintro e w7 ⟨rfl, rfl⟩
    clear hw6
    go_wp2_with fail
    go_ret2
    exact ⟨rfl, hb.out⟩
  | true =>
    have kk := key.1 rfl
    clear key
    go_enter Try.func20, Try.ntmps20
    go_wp2_with fail
    refine (ci.out _).mono ?_
    rintro e w1 ⟨rfl, hb1⟩
    obtain ⟨gx, hb⟩ := one_new (x := ⟨true, 0, l⟩) hb1
    have hs := hb.size
    clear hb1
    obtain ⟨x0, x1, x2⟩ := gx.all
    dsimp only at x0 x1 x2
    go_wp2_with fail
    refine (cf.out _).mono ?_
    rintro e w2 ⟨rfl, hb2⟩
    replace gx := gx.below hb2
    replace hb := hb.trans (hb2.mono hs)
    clear hs hb2 x0 x1 x2
    have hs := hb.size
    obtain ⟨x0, x1, x2⟩ := gx.all
    dsimp only at x0 x1 x2
    clear gx
    replace hb := Lib.hid hb
    go_wp2_with fail
    refine (cs.out _).mono ?_
    rintro e w3 ⟨rfl, hb3⟩
    have hw3 := (IsW.new w2.heap.size w2 (Nat.le_refl _)).below hb3
    replace hb := Lib.hid ((hb.out.alloc hs _).trans (hb3.mono (by rw [size_alloc]; omega)))
    have hs3 := hb.out.size
    clear hb3 x0 x1 x2
    go_wp2_with fail
    refine (cs.out _).mono ?_
    rintro e w4 ⟨rfl, hb4⟩
    have hw4 := hw3.below hb4
    replace hb := Lib.hid (hb.out.trans (hb4.mono hs3))
    clear hb4 hw3 hs3
    go_wp2_with fail
    refine (cp.out _).mono ?_
    rintro e w5 ⟨rfl, rfl⟩
    go_wp2_with fail
    refine (hcn hw4).mono ?_
    rintro e w6 ⟨rfl, hw6, hb6⟩
    replace hb := Lib.hid (hb.out.trans (hb6.mono hs))
    clear hb6 hw4
    go_wp2_with fail
    refine (string_c hw6).mono ?_
    rintro e w7 ⟨rfl, rfl⟩
    clear hw6
    go_wp2_with fail
    go_ret2
    exact ⟨rfl, hb.out⟩
end Go.Proofs.Ytbfigpollacngaa
