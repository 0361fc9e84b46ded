/- the walks over package field, seventh part, put together: the number of bytes -/
import Derived.Test.YtbfigpollacngaaFd7b
namespace Go.Proofs.Ytbfigpollacngaa
open Go.RowKit
open Rf
open Wide

theorem word_ok {n : Int} (h0 : 0 ≤ n) (h1 : n ≤ 18446744073709551615) : (⟨false, 0, n⟩ : WI).Ok := ⟨Int.le_refl 0, show (0 : Int) ≤ 18446744073709551615 by decide, h0, h1⟩
theorem getX_ok (k : Int) (l : List UInt8) : (getX k l).Ok := by
  obtain ⟨h0, h1⟩ := getN_bd k l
  obtain ⟨p0, p1⟩ := powK_bd ((shp k).2.1 * 8)
  unfold getX
  split
  · exact mk_ok _ (In_iff.2 ⟨by omega, by omega⟩)
  · exact word_ok h0 h1
theorem subw {a b : Int} (a0 : 0 ≤ a) (a1 : a ≤ 18446744073709551615) (b0 : 0 ≤ b) (b1 : b ≤ 18446744073709551615) : subF ⟨false, 0, a⟩ ⟨false, 0, b⟩ = (mk (a - b), 0) := by
  rw [mk_word a a0 a1, mk_word b b0 b1, subF_mk (In_small (by omega) (by omega)) (In_small (by omega) (by omega)), R_in' (In_small (by omega) (by omega))]
theorem sub1 {a b : Int} (a0 : 0 ≤ a) (a1 : a ≤ 18446744073709551615) (b0 : 0 ≤ b) (b1 : b ≤ 18446744073709551615) : subF (mk (a - b)) ⟨false, 0, 1⟩ = (mk (a - b - 1), 0) := by
  rw [mk_word 1 (by decide) (by decide), subF_mk (In_small (by omega) (by omega)) (In_small (by omega) (by omega)), R_in' (In_iff.2 ⟨by omega, by omega⟩)]

theorem get_c (k : Int) (s : ByteArray) (hl : (byts s).length ≤ 1000000) (w : World) :
    Calls Try.prog 9 #[.int .i64 k, .string s] w fun e w' => e = .returned (.tuple #[wv (getR k (byts s)).1, .int .i64 (getR k (byts s)).2]) ∧ Below w.heap.size w w' := by
  cases hk : isK k with
  | false =>
    rw [show getR k (byts s) = (zero, 1) from by unfold getR; rw [hk, if_neg (by decide)]]
    exact get_nokind k s hk w
  | true =>
    have ci : Ret 32 #[.int .i64 k] (.bool true) := fun w => by have := kindB k w; rw [hk] at this; exact this
    have cs : Ret 15 #[.int .i64 k] (.int .i64 (shp k).2.1) := fun w => sizeK_c k w
    have cn : ∀ (w : World) (b : Nat), IsR 85 w b (byts s) false → Answers 35 #[.pointer (some ⟨b, 0, none⟩), .int .i64 (shp k).2.1] (.int .u64 (getN k (byts s))) 85 w b (rNum (shp k).2.1 (byts s) false).2.1 (rNum (shp k).2.1 (byts s) false).2.2 :=
      fun w b h => rnum_c h (shp k).2.1 (by omega)
    have cw : Ret 34 #[.int .u64 (getN k (byts s))] (wv ⟨false, 0, getN k (byts s)⟩) := fun w => ofWord_c _ w
    have ca0 := shape_c k
    have cd : ∀ (w : World) (b : Nat), IsR 85 w b (rNum (shp k).2.1 (byts s) false).2.1 (rNum (shp k).2.1 (byts s) false).2.2 → Quiet 38 #[.pointer (some ⟨b, 0, none⟩)] (.bool (getD k (byts s))) w := fun w b h => done_c h
    have cf : Ret 21 #[.int .i64 k, wv (getX k (byts s))] (.bool (fitsF k (getX k (byts s)))) := fun w => fits_c k _ (getX_ok k _) w
    obtain ⟨hn0, hn1⟩ := getN_bd k (byts s)
    obtain ⟨hp0, hp1⟩ := powK_bd ((shp k).2.1 * 8)
    have hsz := size_of hk
    have hR : getR k (byts s) = if (getD k (byts s) && fitsF k (getX k (byts s))) = true then (getX k (byts s), 0) else (zero, 4) := by unfold getR; rw [hk, if_pos rfl]
    have r0 : getD k (byts s) = false → getR k (byts s) = (zero, 4) := fun h => by rw [hR, h]; rfl
    have r1 : getD k (byts s) = true → fitsF k (getX k (byts s)) = false → getR k (byts s) = (zero, 4) := fun h h2 => by rw [hR, h, h2]; rfl
    have r2 : getD k (byts s) = true → fitsF k (getX k (byts s)) = true → getR k (byts s) = (getX k (byts s), 0) := fun h h2 => by rw [hR, h, h2]; rfl
    clear hR
    cases hsg : (shp k).2.2 with
    | false =>
      have hX : getX k (byts s) = ⟨false, 0, getN k (byts s)⟩ := by unfold getX getM; rw [hsg]; rfl
      have ca : Ret 36 #[.int .i64 k] (.agg #[.string (shp k).1, .int .i64 (shp k).2.1, .bool false]) := fun w => by have := ca0 w; rw [hsg] at this; exact this
      rw [hX] at cf r1 r2
      cases hD : getD k (byts s) with
      | false => rw [r0 hD]; rw [hD] at cd; exact get_U0 k _ _ s _ _ _ ci cs cn cw ca cd w
      | true =>
        rw [hD] at cd
        cases hf : fitsF k ⟨false, 0, getN k (byts s)⟩ with
        | false => rw [r1 hD hf]; rw [hf] at cf; exact get_U1 k _ _ s _ _ _ ci cs cn cw ca cd cf w
        | true => rw [r2 hD hf]; rw [hf] at cf; exact get_U2 k _ _ s _ _ _ ci cs cn cw ca cd cf w
    | true =>
      have ca : Ret 36 #[.int .i64 k] (.agg #[.string (shp k).1, .int .i64 (shp k).2.1, .bool true]) := fun w => by have := ca0 w; rw [hsg] at this; exact this
      have cg : Ret 18 #[.int .i64 k] (wv (mk (gK k))) := fun w => greatK_c k w
      have gb := gK_bd k
      have hok : (⟨false, 0, getN k (byts s)⟩ : WI).Ok := word_ok hn0 hn1
      have c2 : Ret 30 #[wv ⟨false, 0, getN k (byts s)⟩, wv (mk (gK k))] (.int .i64 (cmpF ⟨false, 0, getN k (byts s)⟩ (mk (gK k)))) := fun w => cmp_c _ _ hok (mk_ok _ (gK_in k)) w
      have hu : cmpF ⟨false, 0, getN k (byts s)⟩ (mk (gK k)) = sgn (getN k (byts s) - gK k) := by
        rw [mk_word _ hn0 hn1, cmp_mk (mk_form _ (In_small (by omega) (by omega))) (gK_in k), mk_val]
      by_cases hgt : gK k < getN k (byts s)
      · have hX : getX k (byts s) = mk (getN k (byts s) - powK ((shp k).2.1 * 8) - 1) := by unfold getX getM; rw [hsg, decide_eq_true hgt]; rfl
        have d1 : decide (0 < cmpF ⟨false, 0, getN k (byts s)⟩ (mk (gK k))) = true := by rw [hu]; exact decide_eq_true (sgn_gtz.2 (by omega))
        have cp : Ret 37 #[.int .i64 ((shp k).2.1 * 8)] (.int .u64 (powK ((shp k).2.1 * 8))) := fun w => (power_c ((shp k).2.1 * 8) (by omega) w).mono fun _ _ ⟨h1, h2⟩ => ⟨h1, h2 ▸ Below.refl _ _⟩
        have cwp : Ret 34 #[.int .u64 (powK ((shp k).2.1 * 8))] (wv ⟨false, 0, powK ((shp k).2.1 * 8)⟩) := fun w => ofWord_c _ w
        have cs1 : Ret 28 #[wv ⟨false, 0, getN k (byts s)⟩, wv ⟨false, 0, powK ((shp k).2.1 * 8)⟩] (.tuple #[wv (mk (getN k (byts s) - powK ((shp k).2.1 * 8))), .int .i64 0]) := fun w => by
          have := sub_c ⟨false, 0, getN k (byts s)⟩ ⟨false, 0, powK ((shp k).2.1 * 8)⟩ hok (word_ok hp0 hp1) w
          rw [subw hn0 hn1 hp0 hp1] at this; exact this
        have c1 : Ret 27 #[.int .i64 1] (wv ⟨false, 0, 1⟩) := fun w => of_c 1 (by decide) (by decide) w
        have cs2 : Ret 28 #[wv (mk (getN k (byts s) - powK ((shp k).2.1 * 8))), wv ⟨false, 0, 1⟩] (.tuple #[wv (mk (getN k (byts s) - powK ((shp k).2.1 * 8) - 1)), .int .i64 0]) := fun w => by
          have := sub_c (mk (getN k (byts s) - powK ((shp k).2.1 * 8))) ⟨false, 0, 1⟩ (mk_ok _ (In_small (by omega) (by omega))) (word_ok (by decide) (by decide)) w
          rw [sub1 hn0 hn1 hp0 hp1] at this; exact this
        rw [hX] at cf r1 r2
        have z0 : 0 ≤ (shp k).2.1 := by omega
        have z1 : (shp k).2.1 ≤ 8 := by omega
        cases hD : getD k (byts s) with
        | false => rw [r0 hD]; rw [hD] at cd; exact get_M0 k _ _ s _ _ _ _ _ _ _ _ _ _ ci cs cn cw ca cd cg c2 d1 z0 z1 cp cwp cs1 c1 cs2 w
        | true =>
          rw [hD] at cd
          cases hf : fitsF k (mk (getN k (byts s) - powK ((shp k).2.1 * 8) - 1)) with
          | false => rw [r1 hD hf]; rw [hf] at cf; exact get_M1 k _ _ s _ _ _ _ _ _ _ _ _ _ ci cs cn cw ca cd cf cg c2 d1 z0 z1 cp cwp cs1 c1 cs2 w
          | true => rw [r2 hD hf]; rw [hf] at cf; exact get_M2 k _ _ s _ _ _ _ _ _ _ _ _ _ ci cs cn cw ca cd cf cg c2 d1 z0 z1 cp cwp cs1 c1 cs2 w
      · have hX : getX k (byts s) = ⟨false, 0, getN k (byts s)⟩ := by unfold getX getM; rw [hsg, decide_eq_false hgt]; rfl
        have d1 : decide (0 < cmpF ⟨false, 0, getN k (byts s)⟩ (mk (gK k))) = false := by rw [hu]; exact decide_eq_false (fun h => by rw [sgn_gtz] at h; omega)
        rw [hX] at cf r1 r2
        cases hD : getD k (byts s) with
        | false => rw [r0 hD]; rw [hD] at cd; exact get_S0 k _ _ s _ _ _ _ _ ci cs cn cw ca cd cg c2 d1 w
        | true =>
          rw [hD] at cd
          cases hf : fitsF k ⟨false, 0, getN k (byts s)⟩ with
          | false => rw [r1 hD hf]; rw [hf] at cf; exact get_S1 k _ _ s _ _ _ _ _ ci cs cn cw ca cd cf cg c2 d1 w
          | true => rw [r2 hD hf]; rw [hf] at cf; exact get_S2 k _ _ s _ _ _ _ _ ci cs cn cw ca cd cf cg c2 d1 w
end Go.Proofs.Ytbfigpollacngaa
