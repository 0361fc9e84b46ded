/- FieldExact: the plain law, and the walk put together -/
import Derived.Test.YtbfigpollacngaaFdE
import Derived.Test.YtbfigpollacngaaFr10
namespace Go.Proofs.Ytbfigpollacngaa
open Go.RowKit
open Rf
open Wide

theorem le_mod (n : Int) (h0 : 0 ≤ n) (h1 : n ≤ 18446744073709551615) (sz : Int) (hs : sz = 1 ∨ sz = 2 ∨ sz = 4 ∨ sz = 8) : le sz.toNat (n % 256 ^ sz.toNat) = le sz.toNat n := by
  rcases hs with rfl | rfl | rfl | rfl
  · show le 1 (n % 256) = le 1 n
    simp only [le, sh, List.nil_append]
    rw [show n % 256 % 256 = n % 256 by omega]
  · show le 2 (n % 65536) = le 2 n
    simp only [le, sh, List.nil_append]
    rw [show n % 65536 % 256 = n % 256 by omega, show n % 65536 / 256 % 256 = n / 256 % 256 by omega]
  · show le 4 (n % 4294967296) = le 4 n
    simp only [le, sh, List.nil_append]
    rw [show n % 4294967296 % 256 = n % 256 by omega, show n % 4294967296 / 256 % 256 = n / 256 % 256 by omega, show n % 4294967296 / 256 / 256 % 256 = n / 256 / 256 % 256 by omega, show n % 4294967296 / 256 / 256 / 256 % 256 = n / 256 / 256 / 256 % 256 by omega]
  · show le 8 (n % 18446744073709551616) = le 8 n
    rw [show n % 18446744073709551616 = n by omega]
theorem refPut_c (k : Int) (x : WI) (ho : x.Ok) (hk : isK k = true) (hf : fitsF k x = true) : Ret 22 #[.int .i64 k, wv x] (.string (text (putF k x.val))) := fun w => by
  obtain ⟨hh, hv⟩ := fits_word ho hf
  have hsz := size_of hk
  obtain ⟨s1, s2⟩ := size_nat k
  have cb : Ret 11 #[.int .i64 k] (.int .i64 ((shp k).2.1.toNat : Int)) := fun w => by have := bytesR_c k w; rw [s1] at this; exact this
  obtain ⟨n, h, l⟩ := x
  obtain ⟨o1, o2, o3, o4⟩ := ho
  dsimp only at hh hv o1 o2 o3 o4
  subst hh
  cases n with
  | false =>
    rw [if_neg (by decide)] at hv
    have e : putF k (⟨false, 0, l⟩ : WI).val = le (shp k).2.1.toNat l := by unfold putF; rw [hv, le_mod l o3 o4 _ hsz]
    rw [e]
    exact refPut_pos k 0 l o3 o4 _ s2 cb w
  | true =>
    rw [if_pos rfl] at hv
    have ew : IntKind.u64.wrap (-l) = (-l) % 18446744073709551616 := by simp [IntKind.wrap, IntKind.bits, IntKind.signed]
    have e : putF k (⟨true, 0, l⟩ : WI).val = le (shp k).2.1.toNat ((-l) % 18446744073709551616) := by
      unfold putF
      rw [hv, ← wrap_mod l _ hsz, le_mod _ (by omega) (by omega) _ hsz]
    rw [e]
    exact refPut_neg k 0 l _ ew (by omega) (by omega) _ s2 cb w

theorem fieldExact_any (k : Int) (x : WI) (ho : x.Ok) (w : World) :
    Calls Try.prog 4 #[.int .i64 k, wv x] w fun e w' => e = .returned (.bool true) ∧ Below w.heap.size w w' := by
  have bd := boundsR_c k
  have cs : Ret 15 #[.int .i64 k] (.int .i64 (shp k).2.1) := fun w => sizeK_c k w
  have cb := bytesR_c k
  have cn : Ret 16 #[.int .i64 k] (.string (shp k).1) := fun w => nameK_c k w
  have cr := nameR_c k
  have cl : Ret 17 #[.int .i64 k] (wv (mk (lK k))) := fun w => leastK_c k w
  have cg : Ret 18 #[.int .i64 k] (wv (mk (gK k))) := fun w => greatK_c k w
  have rf := fitsR_c k x ho
  have pu : Ret 20 #[.int .i64 k, wv x] (.tuple #[.string (putR k x).1, .int .i64 (putR k x).2]) := fun w => put_c k x ho w
  have ft : Ret 21 #[.int .i64 k, wv x] (.bool (fitsF k x)) := fun w => fits_c k x ho w
  have ck : Ret 25 #[.int .i64 k, wv x] (wv (clampF k x)) := fun w => clamp_c k x ho w
  have gd := goodR_c x
  have hz := size_zero (k := k)
  cases hk : isK k with
  | false =>
    rw [hk] at hz
    have h0 := eq_of_beq hz
    have ff : fitsF k x = false := by unfold fitsF; rw [hk]; rfl
    have ec : clampF k x = zero := by unfold clampF; rw [hk]; rfl
    have ep : putR k x = (ByteArray.empty, 1) := by unfold putR; rw [hk, if_neg (by decide)]
    rw [ff] at rf ft
    rw [ec] at ck
    rw [ep] at pu
    exact fieldExact_N k x _ _ _ _ bd cs cb cn cr cl cg rf pu ft ck (decide_eq_false (by omega)) hz w
  | true =>
    rw [hk] at hz
    have hpos : decide (0 < (shp k).2.1) = true := decide_eq_true (by have := size_of hk; omega)
    cases hf : x.form with
    | false =>
      rw [hf] at gd
      have ff : fitsF k x = false := by unfold fitsF; rw [hk, hf]; rfl
      have ec : clampF k x = zero := by unfold clampF; rw [hf, Bool.and_false]; rfl
      have ep : putR k x = (ByteArray.empty, 3) := by unfold putR; rw [hk, if_pos rfl, ff, if_neg (by decide)]
      rw [ff] at rf ft
      rw [ec] at ck
      rw [ep] at pu
      exact fieldExact_F k x _ _ _ _ bd cs cb cn cr cl cg rf pu ft ck hpos hz gd w
    | true =>
      rw [hf] at gd
      have c1 := refCmp_c x (mk (lK k)) ho (mk_ok _ (lK_in k))
      have c2 := refCmp_c x (mk (gK k)) ho (mk_ok _ (gK_in k))
      have e1 := refCmp_val ho (mk_ok _ (lK_in k)) hf (mk_form _ (lK_in k))
      have e2 := refCmp_val ho (mk_ok _ (gK_in k)) hf (mk_form _ (gK_in k))
      rw [mk_val] at e1 e2
      have hlg := lK_gK hk
      have ec : clampF k x = if x.val < lK k then mk (lK k) else if gK k < x.val then mk (gK k) else x := by unfold clampF; rw [hk, hf]; rfl
      have d1 : ∀ b, decide (x.val < lK k) = b → decide (refCmp x (mk (lK k)) < 0) = b := fun b h => by rw [← h, e1]; congr 1; rw [sgn_ltz]; exact propext ⟨fun h => by omega, fun h => by omega⟩
      have d2 : ∀ b, decide (gK k < x.val) = b → decide (0 < refCmp x (mk (gK k))) = b := fun b h => by rw [← h, e2]; congr 1; rw [sgn_gtz]; exact propext ⟨fun h => by omega, fun h => by omega⟩
      have noput : fitsF k x = false → putR k x = (ByteArray.empty, 3) := fun ff => by unfold putR; rw [hk, if_pos rfl, ff, if_neg (by decide)]
      by_cases h1 : x.val < lK k
      · have ff : fitsF k x = false := by unfold fitsF; rw [decide_eq_false (show ¬ lK k ≤ x.val by omega), Bool.and_false, Bool.false_and]
        rw [if_pos h1] at ec
        rw [ff] at rf ft
        rw [ec] at ck
        rw [noput ff] at pu
        exact fieldExact_L k x _ _ _ _ bd cs cb cn cr cl cg rf pu ft ck hpos hz gd _ _ c1 c2 (d1 _ (decide_eq_true h1)) (d2 _ (decide_eq_false (by omega))) w
      · by_cases h2 : gK k < x.val
        · have ff : fitsF k x = false := by unfold fitsF; rw [decide_eq_false (show ¬ x.val ≤ gK k by omega), Bool.and_false]
          rw [if_neg h1, if_pos h2] at ec
          rw [ff] at rf ft
          rw [ec] at ck
          rw [noput ff] at pu
          exact fieldExact_H k x _ _ _ _ bd cs cb cn cr cl cg rf pu ft ck hpos hz gd _ _ c1 c2 (d1 _ (decide_eq_false h1)) (d2 _ (decide_eq_true h2)) w
        · have ff : fitsF k x = true := fits_iff.2 ⟨hk, hf, by omega, by omega⟩
          have ep : putR k x = (text (putF k x.val), 0) := by unfold putR; rw [hk, if_pos rfl, ff, if_pos rfl]
          have rp := refPut_c k x ho hk ff
          rw [if_neg h1, if_neg h2] at ec
          rw [ff] at rf ft
          rw [ec] at ck
          rw [ep] at pu
          exact fieldExact_M k x _ _ _ _ _ bd cs cb cn cr cl cg rf pu ft ck hpos hz gd _ _ c1 c2 (d1 _ (decide_eq_false h1)) (d2 _ (decide_eq_false h2)) rp w
end Go.Proofs.Ytbfigpollacngaa
