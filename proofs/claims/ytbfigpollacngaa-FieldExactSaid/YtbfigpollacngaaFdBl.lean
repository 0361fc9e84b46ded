/- FieldBack: the plain law, and the walk put together -/
import Derived.Test.YtbfigpollacngaaFdB
import Derived.Test.YtbfigpollacngaaFdSl
namespace Go.Proofs.Ytbfigpollacngaa
open Go.RowKit
open Rf
open Wide

theorem clamp_fits {k : Int} {x : WI} (hk : isK k = true) : fitsF k (clampF k x) = true := by
  rw [fits_iff]
  have h := lK_gK hk
  cases hf : x.form with
  | true =>
    obtain ⟨f1, v1⟩ := clamp_form hk hf
    refine ⟨hk, f1, ?_⟩
    rw [v1]
    split
    · omega
    · split <;> omega
  | false =>
    have e : clampF k x = zero := by unfold clampF; rw [hf, Bool.and_false]; rfl
    rw [e]
    have h1 : lK k ≤ 0 := by have := gK_bd k; unfold lK; split <;> omega
    have h2 := gK_bd k
    exact ⟨hk, rfl, h1, h2.1⟩
/-- what the bytes of v tell -/
theorem put_num (n : Nat) (m : Int) (h0 : 0 ≤ m) (h1 : sh n m = 0) : num (le n m) = m := by
  have := num_le n m h0
  rw [h1, Int.mul_zero, Int.add_zero] at this
  exact this
theorem isW_size {k : Int} (hk : isK k = true) : isW (shp k).2.1 = true := by
  rcases size_of hk with h | h | h | h <;> rw [h] <;> decide
theorem put_len {k : Int} (v : Int) : (putF k v).length = (shp k).2.1.toNat := by unfold putF; rw [le_length]
theorem put_read {k : Int} (hk : isK k = true) (v : Int) : rNum (shp k).2.1 (putF k v) false = (v % 256 ^ (shp k).2.1.toNat, [], false) := by
  obtain ⟨hok, h0, h1⟩ := ok_mod v _ (size_of hk)
  have hs : sh (shp k).2.1.toNat (v % 256 ^ (shp k).2.1.toNat) = 0 := by
    unfold okNum at hok
    rw [Bool.and_eq_true] at hok
    exact eq_of_beq hok.2
  have hl := put_len (k := k) v
  have hs8 := size_nat k
  unfold rNum
  rw [if_pos ⟨rfl, isW_size hk, by omega⟩, List.take_of_length_le (by omega), List.drop_of_length_le (by omega)]
  unfold putF
  rw [put_num _ _ h0 hs]
theorem get_put {k : Int} {A : WI} (ho : A.Ok) (hk : isK k = true) (hf : fitsF k A = true) : getR k (putF k A.val) = (A, 0) := by
  have hr := put_read hk A.val
  obtain ⟨_, hform, h1, h2⟩ := fits_iff.1 hf
  have hD : getD k (putF k A.val) = true := by unfold getD; rw [hr]; rfl
  have hN : getN k (putF k A.val) = A.val % 256 ^ (shp k).2.1.toNat := by unfold getN; rw [hr]
  have hX : getX k (putF k A.val) = A := by
    have key : getX k (putF k A.val) = mk A.val := by
      unfold getX getM
      rw [hN]
      generalize A.val = v at *
      clear hr hD hN hform hf ho
      rcases kind_cases hk with rfl | rfl | rfl | rfl | rfl | rfl | rfl | rfl | rfl | rfl
      · replace h1 : (0 : Int) ≤ v := h1
        replace h2 : v ≤ 1 := h2
        show (if (false && decide ((1 : Int) < v % 256)) = true then mk (v % 256 - 255 - 1) else ⟨false, 0, v % 256⟩) = mk v
        rw [Bool.false_and, if_neg (by decide), mk_word _ (by omega) (by omega), show v % 256 = v by omega]
      · replace h1 : (-127 - 1 : Int) ≤ v := h1
        replace h2 : v ≤ 127 := h2
        show (if (true && decide ((127 : Int) < v % 256)) = true then mk (v % 256 - 255 - 1) else ⟨false, 0, v % 256⟩) = mk v
        rw [Bool.true_and]
        by_cases hn : v < 0
        · rw [if_pos (decide_eq_true (by omega)), show v % 256 - 255 - 1 = v by omega]
        · rw [if_neg (fun h => by have := of_decide_eq_true h; omega), mk_word _ (by omega) (by omega), show v % 256 = v by omega]
      · replace h1 : (-32767 - 1 : Int) ≤ v := h1
        replace h2 : v ≤ 32767 := h2
        show (if (true && decide ((32767 : Int) < v % 65536)) = true then mk (v % 65536 - 65535 - 1) else ⟨false, 0, v % 65536⟩) = mk v
        rw [Bool.true_and]
        by_cases hn : v < 0
        · rw [if_pos (decide_eq_true (by omega)), show v % 65536 - 65535 - 1 = v by omega]
        · rw [if_neg (fun h => by have := of_decide_eq_true h; omega), mk_word _ (by omega) (by omega), show v % 65536 = v by omega]
      · replace h1 : (-2147483647 - 1 : Int) ≤ v := h1
        replace h2 : v ≤ 2147483647 := h2
        show (if (true && decide ((2147483647 : Int) < v % 4294967296)) = true then mk (v % 4294967296 - 4294967295 - 1) else ⟨false, 0, v % 4294967296⟩) = mk v
        rw [Bool.true_and]
        by_cases hn : v < 0
        · rw [if_pos (decide_eq_true (by omega)), show v % 4294967296 - 4294967295 - 1 = v by omega]
        · rw [if_neg (fun h => by have := of_decide_eq_true h; omega), mk_word _ (by omega) (by omega), show v % 4294967296 = v by omega]
      · replace h1 : (-9223372036854775807 - 1 : Int) ≤ v := h1
        replace h2 : v ≤ 9223372036854775807 := h2
        show (if (true && decide ((9223372036854775807 : Int) < v % 18446744073709551616)) = true then mk (v % 18446744073709551616 - 18446744073709551615 - 1) else ⟨false, 0, v % 18446744073709551616⟩) = mk v
        rw [Bool.true_and]
        by_cases hn : v < 0
        · rw [if_pos (decide_eq_true (by omega)), show v % 18446744073709551616 - 18446744073709551615 - 1 = v by omega]
        · rw [if_neg (fun h => by have := of_decide_eq_true h; omega), mk_word _ (by omega) (by omega), show v % 18446744073709551616 = v by omega]
      · replace h1 : (0 : Int) ≤ v := h1
        replace h2 : v ≤ 255 := h2
        show (if (false && decide ((255 : Int) < v % 256)) = true then mk (v % 256 - 255 - 1) else ⟨false, 0, v % 256⟩) = mk v
        rw [Bool.false_and, if_neg (by decide), mk_word _ (by omega) (by omega), show v % 256 = v by omega]
      · replace h1 : (0 : Int) ≤ v := h1
        replace h2 : v ≤ 65535 := h2
        show (if (false && decide ((65535 : Int) < v % 65536)) = true then mk (v % 65536 - 65535 - 1) else ⟨false, 0, v % 65536⟩) = mk v
        rw [Bool.false_and, if_neg (by decide), mk_word _ (by omega) (by omega), show v % 65536 = v by omega]
      · replace h1 : (0 : Int) ≤ v := h1
        replace h2 : v ≤ 4294967295 := h2
        show (if (false && decide ((4294967295 : Int) < v % 4294967296)) = true then mk (v % 4294967296 - 4294967295 - 1) else ⟨false, 0, v % 4294967296⟩) = mk v
        rw [Bool.false_and, if_neg (by decide), mk_word _ (by omega) (by omega), show v % 4294967296 = v by omega]
      · replace h1 : (0 : Int) ≤ v := h1
        replace h2 : v ≤ 18446744073709551615 := h2
        show (if (false && decide ((18446744073709551615 : Int) < v % 18446744073709551616)) = true then mk (v % 18446744073709551616 - 18446744073709551615 - 1) else ⟨false, 0, v % 18446744073709551616⟩) = mk v
        rw [Bool.false_and, if_neg (by decide), mk_word _ (by omega) (by omega), show v % 18446744073709551616 = v by omega]
      · replace h1 : (0 : Int) ≤ v := h1
        replace h2 : v ≤ 18446744073709551615 := h2
        show (if (false && decide ((18446744073709551615 : Int) < v % 18446744073709551616)) = true then mk (v % 18446744073709551616 - 18446744073709551615 - 1) else ⟨false, 0, v % 18446744073709551616⟩) = mk v
        rw [Bool.false_and, if_neg (by decide), mk_word _ (by omega) (by omega), show v % 18446744073709551616 = v by omega]
    rw [key, mk_of ho hform]
  unfold getR
  rw [hk, if_pos rfl, hD, hX, hf]
  rfl
theorem put_inj {k : Int} {A B : WI} (ha : A.Ok) (hb : B.Ok) (hk : isK k = true) (fa : fitsF k A = true) (fb : fitsF k B = true) :
    (A = B ∧ text (putF k A.val) = text (putF k B.val)) ∨ (A ≠ B ∧ ((text (putF k A.val)).toList == (text (putF k B.val)).toList) = false) := by
  by_cases h : A = B
  · exact .inl ⟨h, by rw [h]⟩
  · refine .inr ⟨h, beq_eq_false_iff_ne.2 fun hh => h ?_⟩
    rw [toList_text, toList_text] at hh
    have e1 := get_put ha hk fa
    rw [hh, get_put hb hk fb] at e1
    exact (congrArg Prod.fst e1).symm
theorem fit_mk {k v : Int} (hk : isK k = true) (hv : In v = true) : fitsF k (mk v) = (decide (lK k ≤ v) && decide (v ≤ gK k)) := by
  unfold fitsF
  rw [hk, mk_form v hv, mk_val]
  rfl
theorem clamp_mk {k v : Int} (hk : isK k = true) (hv : In v = true) : clampF k (mk v) = if v < lK k then mk (lK k) else if gK k < v then mk (gK k) else mk v := by
  unfold clampF
  rw [hk, mk_form v hv, mk_val]
  rfl

theorem fieldBack_any (k : Int) (x : WI) (ho : x.Ok) (y : WI) (hp : y.Ok) (w : World) :
    Calls Try.prog 5 #[.int .i64 k, wv x, wv y] w fun e w' => e = .returned (.bool true) ∧ Below w.heap.size w w' := by
  have cs0 := sizeK_c k
  cases hk : isK k with
  | false =>
    have cs : Ret 15 #[.int .i64 k] (.int .i64 0) := fun w => by
      have h := size_zero (k := k)
      rw [hk] at h
      have := cs0 w
      rw [eq_of_beq h] at this
      exact this
    have cf : Ret 21 #[.int .i64 k, wv x] (.bool false) := fun w => by
      have := fits_c k x ho w
      rw [show fitsF k x = false from by unfold fitsF; rw [hk]; rfl] at this
      exact this
    exact fieldBack_0 k x y cs cf w
  | true =>
    have oa := clampF_ok k x ho
    have ob := clampF_ok k y hp
    have fa := clamp_fits (x := x) hk
    have fb := clamp_fits (x := y) hk
    have g := gK_bd k
    have l0 := lK_low k
    have l1 : lK k ≤ 0 := by unfold lK; split <;> omega
    obtain ⟨z1, z2⟩ := size_nat k
    have hS : ((text (putF k (clampF k x).val)).size : Int) = (shp k).2.1 := by rw [text_size, put_len]; omega
    have hs0 : (((text (putF k (clampF k x).val)).size : Int) == 0) = false := by
      rw [hS, size_zero, hk]; rfl
    have cs : Ret 15 #[.int .i64 k] (.int .i64 ((text (putF k (clampF k x).val)).size : Int)) := fun w => by rw [hS]; exact cs0 w
    have cA : Ret 25 #[.int .i64 k, wv x] (wv (clampF k x)) := fun w => clamp_c k x ho w
    have cB : Ret 25 #[.int .i64 k, wv y] (wv (clampF k y)) := fun w => clamp_c k y hp w
    have pA : Ret 20 #[.int .i64 k, wv (clampF k x)] (.tuple #[.string (text (putF k (clampF k x).val)), .int .i64 0]) := fun w => put_yes k _ oa hk fa w
    have pB : Ret 20 #[.int .i64 k, wv (clampF k y)] (.tuple #[.string (text (putF k (clampF k y).val)), .int .i64 0]) := fun w => put_yes k _ ob hk fb w
    have gS : Ret 9 #[.int .i64 k, .string (text (putF k (clampF k x).val))] (.tuple #[wv (clampF k x), .int .i64 0]) := fun w => by
      have := get_c k (text (putF k (clampF k x).val)) (by rw [byts_text, put_len]; omega) w
      rw [byts_text, get_put oa hk fa] at this
      exact this
    have heq := put_inj oa ob hk fa fb
    have cg : Ret 18 #[.int .i64 k] (wv (mk (gK k))) := fun w => greatK_c k w
    have cl : Ret 17 #[.int .i64 k] (wv (mk (lK k))) := fun w => leastK_c k w
    have c1 : Ret 27 #[.int .i64 1] (wv ⟨false, 0, 1⟩) := fun w => of_c 1 (by decide) (by decide) w
    have iu : In (gK k + 1) = true := In_iff.2 ⟨by omega, by omega⟩
    have id' : In (lK k - 1) = true := In_iff.2 ⟨by omega, by omega⟩
    have cu : Ret 26 #[wv (mk (gK k)), wv ⟨false, 0, 1⟩] (.tuple #[wv (mk (gK k + 1)), .int .i64 0]) := fun w => by
      have := add_c (mk (gK k)) (mk 1) (mk_ok _ (gK_in k)) (mk_ok _ (by decide)) w
      rw [R_add (gK_in k) (by decide) iu] at this
      exact this
    have cd : Ret 28 #[wv (mk (lK k)), wv ⟨false, 0, 1⟩] (.tuple #[wv (mk (lK k - 1)), .int .i64 0]) := fun w => by
      have := sub_c (mk (lK k)) (mk 1) (mk_ok _ (lK_in k)) (mk_ok _ (by decide)) w
      rw [R_sub (lK_in k) (by decide) id'] at this
      exact this
    have hlg := lK_gK hk
    have fits : ∀ v, In v = true → ∀ b, (decide (lK k ≤ v) && decide (v ≤ gK k)) = b → Ret 21 #[.int .i64 k, wv (mk v)] (.bool b) := fun v hv b hb w => by
      have := fits_c k (mk v) (mk_ok _ hv) w
      rw [fit_mk hk hv, hb] at this
      exact this
    have fL := fits (lK k) (lK_in k) true (by rw [decide_eq_true (Int.le_refl _), decide_eq_true hlg]; rfl)
    have fG := fits (gK k) (gK_in k) true (by rw [decide_eq_true (Int.le_refl _), decide_eq_true hlg]; rfl)
    have fU := fits (gK k + 1) iu false (by rw [decide_eq_false (show ¬ gK k + 1 ≤ gK k by omega), Bool.and_false])
    have fD := fits (lK k - 1) id' false (by rw [decide_eq_false (show ¬ lK k ≤ lK k - 1 by omega), Bool.false_and])
    have kU : Ret 25 #[.int .i64 k, wv (mk (gK k + 1))] (wv (mk (gK k))) := fun w => by
      have := clamp_c k (mk (gK k + 1)) (mk_ok _ iu) w
      rw [clamp_mk hk iu, if_neg (by omega), if_pos (by omega)] at this
      exact this
    have kD : Ret 25 #[.int .i64 k, wv (mk (lK k - 1))] (wv (mk (lK k))) := fun w => by
      have := clamp_c k (mk (lK k - 1)) (mk_ok _ id') w
      rw [clamp_mk hk id', if_pos (by omega)] at this
      exact this
    exact fieldBack_1 k x y _ _ _ _ _ _ _ _ hs0 cs cA cB pA pB gS heq cg cl c1 cu cd fL fG fU fD kU kD w
end Go.Proofs.Ytbfigpollacngaa
