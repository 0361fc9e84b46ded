/- the walks over the Reader of layer 2, second part: what is seen ahead, and the four ways of reading -/
import Derived.Test.YtaddckdbhakgmaaOctR
namespace Go.Proofs.Ytaddckdbhakgmaa
open Go.RowKit
open Rf

theorem or8 (n c : Int) (h0 : 0 ≤ n) (h1 : n ≤ 72057594037927935) (h2 : 0 ≤ c) (h3 : c ≤ 255) : bits .or .u64 (n * 256) c = c + 256 * n := by
  obtain ⟨m, rfl⟩ := Int.eq_ofNat_of_zero_le h0
  obtain ⟨k, rfl⟩ := Int.eq_ofNat_of_zero_le h2
  have : (m : Int) * 256 = ((m * 256 : Nat) : Int) := by omega
  rw [this, u64_or_nat (m * 256) k (by omega) (by omega), nat_join 8 (m * 256) k (by omega) (by omega)]; omega

theorem text_getElem (l : List UInt8) (i : Nat) (h : i < (text l).size) : (text l)[i]'h = l[i]'(by rw [text_size] at h; exact h) := by
  show (text l).data[i]'_ = _
  simp [text]

section
variable {w : World} {b : Nat} {l : List UInt8} {bad : Bool}

set_option maxHeartbeats 400000 in
theorem see_no (h : IsR 68 w b l bad) (k : Int) (hk : isW k = false ∨ rLeft l bad < k) : Calls Try.prog 45 #[.pointer (some ⟨b, 0, none⟩), .int .i64 k] w fun e w' => e = .returned (.tuple #[.int .u64 0, .bool false]) ∧ w = w' := by
  by_cases h0 : isW k = true
  · have hlt : rLeft l bad < k := by simpa [h0] using hk
    clear hk
    have hk : k = 1 ∨ k = 2 ∨ k = 4 ∨ k = 8 := by simp only [isW, Bool.or_eq_true, beq_iff_eq] at h0; omega
    clear h0
    go_enter Try.func45, Try.ntmps45
    go_wp2_with fail
    refine (isWide_yes k hk _).mono ?_
    rintro e w' ⟨rfl, rfl⟩
    go_wp2_with fail
    refine (left_c h).mono ?_
    rintro e w' ⟨rfl, rfl⟩
    go_wp2_with fail
    go_ret2
    exact ⟨rfl, rfl⟩
  · have h0 : isW k = false := by simpa using h0
    clear hk
    go_enter Try.func45, Try.ntmps45
    go_wp2_with fail
    refine (isWide_no k h0 _).mono ?_
    rintro e w' ⟨rfl, rfl⟩
    go_wp2_with fail
    go_ret2
    exact ⟨rfl, rfl⟩

set_option maxHeartbeats 800000 in
theorem see_yes (h : IsR 68 w b l false) (k : Int) (hk : k = 1 ∨ k = 2 ∨ k = 4 ∨ k = 8) (hl : k ≤ (l.length : Int)) : Calls Try.prog 45 #[.pointer (some ⟨b, 0, none⟩), .int .i64 k] w fun e w' => e = .returned (.tuple #[.int .u64 (num (l.take k.toNat)), .bool true]) ∧ w = w' := by
  have hleft : rLeft l false = (l.length : Int) := rfl
  have c0 := h.c0
  have hs := text_size l
  obtain ⟨m, hm⟩ : ∃ m, l.take k.toNat = m := ⟨_, rfl⟩
  have hml : (m.length : Int) = k := by rw [← hm, List.length_take, Nat.min_eq_left (by omega)]; omega
  have hget : ∀ (i : Nat) (hi : i < m.length) (hi' : i < l.length), l[i] = m[i] := fun i hi hi' => by
    subst hm
    simp
  rw [hm]
  replace hm := Lib.hid hm
  replace hget := Lib.hid hget
  have hk0 : (1 : Int) ≤ k := by omega
  have hk8 : k ≤ 8 := by omega
  have hm1 : k ≤ (m.length : Int) := by omega
  have hm2 : (m.length : Int) ≤ k := by omega
  clear hml
  go_enter Try.func45, Try.ntmps45
  go_wp2_with fail
  refine (isWide_yes k hk _).mono ?_
  rintro e w' ⟨rfl, rfl⟩
  go_wp2_with fail
  refine (left_c h).mono ?_
  rintro e w' ⟨rfl, rfl⟩
  rw [hleft]
  clear hk hleft
  go_wp2_with fail
  go_loop [6, 7] (fun n i => ∃ j : Int, -1 ≤ j ∧ j < k ∧ i = .int .i64 j ∧ n = .int .u64 (num (m.drop (j + 1).toNat))) (fun _ i => (intOf i + 1).toNat)
  case atStart => exact ⟨k - 1, by omega, by omega, rfl, by rw [List.drop_eq_nil_of_le (by omega)]; rfl⟩
  case round =>
    obtain ⟨j, hj0, hj1, rfl, rfl⟩ := hrel
    by_cases hlt : 0 ≤ j
    · obtain ⟨i, rfl⟩ := Int.eq_ofNat_of_zero_le hlt
      have hi : i < m.length := by omega
      have hst := num_step m i hi
      have hsm := num_small m (i + 1) (by omega)
      have hgi := hget.out i hi (by omega)
      have hil : i < (text l).size := by omega
      have hix : (text l)[i]'hil = m[i] := by rw [text_getElem]; exact hgi
      rw [← hix] at hst
      rw [show ((i : Int) + 1).toNat = i + 1 by omega]
      have hby : ((text l)[i]'hil).toNat < 256 := ((text l)[i]'hil).toNat_lt
      replace hst := Lib.hid hst
      clear hgi hix
      generalize num (m.drop (i + 1)) = n at *
      have hor := or8 n (((text l)[i]'hil).toNat : Int) hsm.1 hsm.2 (by omega) (by omega)
      have hilI : (i : Int) < (l.length : Int) := by omega
      go_wp2_with fail
      go_round
      case rel => exact ⟨(i : Int) - 1, by omega, by omega, rfl, by rw [show ((i : Int) - 1 + 1).toNat = i by omega, hst.out]⟩
      case measure => simp [intOf]
    · obtain rfl : j = -1 := by omega
      go_wp2_with fail
      go_ret2
      exact ⟨rfl, rfl⟩

/-- the four ways of reading, as one statement each -/
def Answers (f : FuncId) (args : Array Value) (v : Value) (T : TypeId) (w : World) (b : Nat) (l : List UInt8) (bad : Bool) : Prop :=
  Calls Try.prog f args w fun e w' => e = .returned v ∧ IsR T w' b l bad ∧ w.grownBy w' (some b)

set_option maxHeartbeats 400000 in
theorem rnum_c (h : IsR 68 w b l bad) (k : Int) (hl : l.length ≤ 1000000000000) :
    Answers 29 #[.pointer (some ⟨b, 0, none⟩), .int .i64 k] (.int .u64 (rNum k l bad).1) 68 w b (rNum k l bad).2.1 (rNum k l bad).2.2 := by
  unfold Answers
  by_cases hc : bad = false ∧ isW k = true ∧ k ≤ (l.length : Int)
  · rw [show rNum k l bad = (num (l.take k.toNat), l.drop k.toNat, false) from if_pos hc]
    obtain ⟨rfl, hw, hk⟩ := hc
    have hk' : k = 1 ∨ k = 2 ∨ k = 4 ∨ k = 8 := by simp only [isW, Bool.or_eq_true, beq_iff_eq] at hw; omega
    have hk0 : 0 ≤ k := by omega
    go_enter Try.func29, Try.ntmps29
    go_wp2_with fail
    refine (see_yes h k hk' hk).mono ?_
    rintro e w' ⟨rfl, rfl⟩
    go_wp2_with fail
    refine (take_yes h 0 k (by omega) (by omega) hk0 (by omega) hl).mono ?_
    rintro e w' ⟨rfl, hr, hg⟩
    rw [show (0 : Int).toNat + k.toNat = k.toNat by simp] at hr
    go_wp2_with fail
    go_ret
    exact ⟨rfl, hr, hg⟩
  · rw [show rNum k l bad = (0, l, true) from if_neg hc]
    have hno : isW k = false ∨ rLeft l bad < k := by
      cases bad with
      | true =>
        by_cases hw : isW k = true
        · right
          simp only [isW, Bool.or_eq_true, beq_iff_eq] at hw
          show (0 : Int) < k
          omega
        · left; simpa using hw
      | false =>
        by_cases hw : isW k = true
        · right
          show (l.length : Int) < k
          have : ¬ k ≤ (l.length : Int) := fun hk => hc ⟨rfl, hw, hk⟩
          omega
        · left; simpa using hw
    clear hc
    go_enter Try.func29, Try.ntmps29
    go_wp2_with fail
    refine (see_no h k hno).mono ?_
    rintro e w' ⟨rfl, rfl⟩
    go_wp2_with fail
    cases bad with
    | true =>
      refine (take_bad h 0 k false).mono ?_
      rintro e w' ⟨rfl, hr, hg⟩
      go_wp2_with fail
      go_ret
      exact ⟨rfl, hr, hg⟩
    | false =>
      refine (take_no h 0 k false (by omega) (by omega) (.inl rfl) hl).mono ?_
      rintro e w' ⟨rfl, hr, hg⟩
      go_wp2_with fail
      go_ret
      exact ⟨rfl, hr, hg⟩

set_option maxHeartbeats 400000 in
theorem rraw_c (h : IsR 68 w b l bad) (n : Int) (hl : l.length ≤ 1000000000000) :
    Answers 35 #[.pointer (some ⟨b, 0, none⟩), .int .i64 n] (.string (text (rRaw n l bad).1)) 68 w b (rRaw n l bad).2.1 (rRaw n l bad).2.2 := by
  unfold Answers
  by_cases hc : bad = false ∧ 0 ≤ n ∧ n ≤ (l.length : Int)
  · rw [show rRaw n l bad = (l.take n.toNat, l.drop n.toNat, false) from if_pos hc]
    obtain ⟨rfl, h0, hn⟩ := hc
    go_enter Try.func35, Try.ntmps35
    go_wp2_with fail
    refine (take_yes h 0 n (by omega) (by omega) h0 (by omega) hl).mono ?_
    rintro e w' ⟨rfl, hr, hg⟩
    rw [show (0 : Int).toNat + n.toNat = n.toNat by simp] at hr
    go_wp2_with fail
    go_ret
    exact ⟨rfl, hr, hg⟩
  · rw [show rRaw n l bad = ([], l, true) from if_neg hc]
    cases bad with
    | true =>
      clear hc
      go_enter Try.func35, Try.ntmps35
      go_wp2_with fail
      refine (take_bad h 0 n true).mono ?_
      rintro e w' ⟨rfl, hr, hg⟩
      go_wp2_with fail
      go_ret
      exact ⟨rfl, hr, hg⟩
    | false =>
      have hno : true = false ∨ n < 0 ∨ (l.length : Int) - 0 < n := by
        right
        have : ¬ (0 ≤ n ∧ n ≤ (l.length : Int)) := fun hk => hc ⟨rfl, hk⟩
        omega
      clear hc
      go_enter Try.func35, Try.ntmps35
      go_wp2_with fail
      refine (take_no h 0 n true (by omega) (by omega) hno hl).mono ?_
      rintro e w' ⟨rfl, hr, hg⟩
      go_wp2_with fail
      go_ret
      exact ⟨rfl, hr, hg⟩

set_option maxHeartbeats 400000 in
theorem rname_c (h : IsR 68 w b l bad) (hl : l.length ≤ 1000000000000) :
    Answers 31 #[.pointer (some ⟨b, 0, none⟩)] (.string (text (rText 1 255 l bad).1)) 68 w b (rText 1 255 l bad).2.1 (rText 1 255 l bad).2.2 := by
  unfold Answers
  have hb := num_take1 l
  by_cases hc : bad = false ∧ 1 ≤ l.length ∧ num (l.take 1) ≤ 255 ∧ num (l.take 1) ≤ (l.length : Int) - ((1 : Nat) : Int)
  · rw [show rText 1 255 l bad = ((l.drop 1).take (num (l.take 1)).toNat, l.drop (1 + (num (l.take 1)).toNat), false) from if_pos hc]
    obtain ⟨rfl, h1, _, h2⟩ := hc
    obtain ⟨n, hn⟩ : ∃ n, num (l.take 1) = n := ⟨_, rfl⟩
    obtain ⟨l1, hl1⟩ : ∃ l1, l.drop 1 = l1 := ⟨_, rfl⟩
    rw [hn] at h2 hb ⊢
    rw [hl1]
    replace hn := Lib.hid hn
    replace hl1 := Lib.hid hl1
    go_enter Try.func31, Try.ntmps31
    go_wp2_with fail
    refine (see_yes h 1 (by omega) (by omega)).mono ?_
    rintro e w' ⟨rfl, rfl⟩
    rw [show (1 : Int).toNat = 1 from rfl]
    rw [hn.out]
    go_wp2_with fail
    refine (take_yes h 1 n (by omega) (by omega) hb.1 (by omega) hl).mono ?_
    rintro e w' ⟨rfl, hr, hg⟩
    rw [show (1 : Int).toNat = 1 from rfl] at hr ⊢
    rw [hl1.out]
    go_wp2_with fail
    go_ret
    exact ⟨rfl, hr, hg⟩
  · rw [show rText 1 255 l bad = ([], l, true) from if_neg hc]
    cases bad with
    | true =>
      clear hc
      go_enter Try.func31, Try.ntmps31
      go_wp2_with fail
      refine (see_no h 1 (.inr (by show (0 : Int) < 1; omega))).mono ?_
      rintro e w' ⟨rfl, rfl⟩
      go_wp2_with fail
      refine (take_bad h 1 _ _).mono ?_
      rintro e w' ⟨rfl, hr, hg⟩
      go_wp2_with fail
      go_ret
      exact ⟨rfl, hr, hg⟩
    | false =>
      by_cases h1 : 1 ≤ l.length
      · have h2 : (l.length : Int) - 1 < num (l.take 1) := by
          have : ¬ (num (l.take 1) ≤ (l.length : Int) - ((1 : Nat) : Int)) := fun hk => hc ⟨rfl, h1, hb.2, hk⟩
          omega
        clear hc
        go_enter Try.func31, Try.ntmps31
        go_wp2_with fail
        refine (see_yes h 1 (by omega) (by omega)).mono ?_
        rintro e w' ⟨rfl, rfl⟩
        rw [show (1 : Int).toNat = 1 from rfl]
        generalize num (l.take 1) = n at *
        go_wp2_with fail
        refine (take_no h 1 n true (by omega) (by omega) (.inr (.inr h2)) hl).mono ?_
        rintro e w' ⟨rfl, hr, hg⟩
        go_wp2_with fail
        go_ret
        exact ⟨rfl, hr, hg⟩
      · clear hc
        go_enter Try.func31, Try.ntmps31
        go_wp2_with fail
        refine (see_no h 1 (.inr (by show (l.length : Int) < 1; omega))).mono ?_
        rintro e w' ⟨rfl, rfl⟩
        go_wp2_with fail
        refine (take_no h 1 0 false (by omega) (by omega) (.inl rfl) hl).mono ?_
        rintro e w' ⟨rfl, hr, hg⟩
        go_wp2_with fail
        go_ret
        exact ⟨rfl, hr, hg⟩

set_option maxHeartbeats 400000 in
theorem rpart_c (h : IsR 68 w b l bad) (most : Int) (hl : l.length ≤ 1000000000000) :
    Answers 33 #[.pointer (some ⟨b, 0, none⟩), .int .i64 most] (.string (text (rText 4 most l bad).1)) 68 w b (rText 4 most l bad).2.1 (rText 4 most l bad).2.2 := by
  unfold Answers
  have hb := num_take4 l
  by_cases hc : bad = false ∧ 4 ≤ l.length ∧ num (l.take 4) ≤ most ∧ num (l.take 4) ≤ (l.length : Int) - ((4 : Nat) : Int)
  · rw [show rText 4 most l bad = ((l.drop 4).take (num (l.take 4)).toNat, l.drop (4 + (num (l.take 4)).toNat), false) from if_pos hc]
    obtain ⟨rfl, h1, hm, h2⟩ := hc
    obtain ⟨n, hn⟩ : ∃ n, num (l.take 4) = n := ⟨_, rfl⟩
    obtain ⟨l1, hl1⟩ : ∃ l1, l.drop 4 = l1 := ⟨_, rfl⟩
    rw [hn] at h2 hb hm ⊢
    rw [hl1]
    replace hn := Lib.hid hn
    replace hl1 := Lib.hid hl1
    go_enter Try.func33, Try.ntmps33
    go_wp2_with fail
    refine (see_yes h 4 (by omega) (by omega)).mono ?_
    rintro e w' ⟨rfl, rfl⟩
    rw [show (4 : Int).toNat = 4 from rfl]
    rw [hn.out]
    go_wp2_with fail
    refine (take_yes h 4 n (by omega) (by omega) hb.1 (by omega) hl).mono ?_
    rintro e w' ⟨rfl, hr, hg⟩
    rw [show (4 : Int).toNat = 4 from rfl] at hr ⊢
    rw [hl1.out]
    go_wp2_with fail
    go_ret
    exact ⟨rfl, hr, hg⟩
  · rw [show rText 4 most l bad = ([], l, true) from if_neg hc]
    cases bad with
    | true =>
      clear hc
      go_enter Try.func33, Try.ntmps33
      go_wp2_with fail
      refine (see_no h 4 (.inr (by show (0 : Int) < 4; omega))).mono ?_
      rintro e w' ⟨rfl, rfl⟩
      go_wp2_with fail
      refine (take_bad h 4 _ _).mono ?_
      rintro e w' ⟨rfl, hr, hg⟩
      go_wp2_with fail
      go_ret
      exact ⟨rfl, hr, hg⟩
    | false =>
      by_cases h1 : 4 ≤ l.length
      · by_cases hm : num (l.take 4) ≤ most
        · have h2 : (l.length : Int) - 4 < num (l.take 4) := by
            have : ¬ (num (l.take 4) ≤ (l.length : Int) - ((4 : Nat) : Int)) := fun hk => hc ⟨rfl, h1, hm, hk⟩
            omega
          clear hc
          go_enter Try.func33, Try.ntmps33
          go_wp2_with fail
          refine (see_yes h 4 (by omega) (by omega)).mono ?_
          rintro e w' ⟨rfl, rfl⟩
          rw [show (4 : Int).toNat = 4 from rfl]
          generalize num (l.take 4) = n at *
          go_wp2_with fail
          refine (take_no h 4 n true (by omega) (by omega) (.inr (.inr h2)) hl).mono ?_
          rintro e w' ⟨rfl, hr, hg⟩
          go_wp2_with fail
          go_ret
          exact ⟨rfl, hr, hg⟩
        · clear hc
          go_enter Try.func33, Try.ntmps33
          go_wp2_with fail
          refine (see_yes h 4 (by omega) (by omega)).mono ?_
          rintro e w' ⟨rfl, rfl⟩
          rw [show (4 : Int).toNat = 4 from rfl]
          generalize num (l.take 4) = n at *
          have hmf : decide (n ≤ most) = false := by simpa using hm
          go_wp2_with fail
          refine (take_no h 4 n _ (by omega) (by omega) (.inl (by first | rfl | simpa using hm)) hl).mono ?_
          rintro e w' ⟨rfl, hr, hg⟩
          go_wp2_with fail
          go_ret
          exact ⟨rfl, hr, hg⟩
      · clear hc
        go_enter Try.func33, Try.ntmps33
        go_wp2_with fail
        refine (see_no h 4 (.inr (by show (l.length : Int) < 4; omega))).mono ?_
        rintro e w' ⟨rfl, rfl⟩
        go_wp2_with fail
        refine (take_no h 4 0 false (by omega) (by omega) (.inl rfl) hl).mono ?_
        rintro e w' ⟨rfl, hr, hg⟩
        go_wp2_with fail
        go_ret
        exact ⟨rfl, hr, hg⟩
end

/-- a nil Reader -/
theorem bad_nil (w : World) : Calls Try.prog 37 #[.pointer none] w fun e w' => e = .returned (.bool true) ∧ w = w' := by
  go_enter Try.func37, Try.ntmps37
  go_wp2_with fail
  go_ret
  exact ⟨rfl, rfl⟩
theorem left_nil (w : World) : Calls Try.prog 38 #[.pointer none] w fun e w' => e = .returned (.int .i64 0) ∧ w = w' := by
  go_enter Try.func38, Try.ntmps38
  go_wp2_with (first | (go_at_call 37; refine (bad_nil _).mono ?_; rintro e w' ⟨rfl, rfl⟩))
  go_ret
  exact ⟨rfl, rfl⟩
theorem done_nil (w : World) : Calls Try.prog 40 #[.pointer none] w fun e w' => e = .returned (.bool false) ∧ w = w' := by
  go_enter Try.func40, Try.ntmps40
  go_wp2_with (first | (go_at_call 37; refine (bad_nil _).mono ?_; rintro e w' ⟨rfl, rfl⟩))
  go_ret
  exact ⟨rfl, rfl⟩
theorem take_nil (w : World) (f n : Int) (is : Bool) : Calls Try.prog 46 #[.pointer none, .int .i64 f, .int .i64 n, .bool is] w fun e w' => e = .returned (.string ByteArray.empty) ∧ w = w' := by
  go_enter Try.func46, Try.ntmps46
  go_wp2_with (first | (go_at_call 37; refine (bad_nil _).mono ?_; rintro e w' ⟨rfl, rfl⟩))
  go_ret
  exact ⟨rfl, rfl⟩
theorem see_nil (w : World) (k : Int) (hk : k = 1 ∨ k = 2 ∨ k = 4 ∨ k = 8) : Calls Try.prog 45 #[.pointer none, .int .i64 k] w fun e w' => e = .returned (.tuple #[.int .u64 0, .bool false]) ∧ w = w' := by
  have h0 : (0 : Int) < k := by omega
  go_enter Try.func45, Try.ntmps45
  go_wp2_with (first | (go_at_call 44; refine (isWide_yes k hk _).mono ?_; rintro e w' ⟨rfl, rfl⟩) | (go_at_call 38; refine (left_nil _).mono ?_; rintro e w' ⟨rfl, rfl⟩))
  go_ret2
  exact ⟨rfl, rfl⟩
theorem rnum_nil (w : World) : Calls Try.prog 29 #[.pointer none, .int .i64 1] w fun e w' => e = .returned (.int .u64 0) ∧ w = w' := by
  go_enter Try.func29, Try.ntmps29
  go_wp2_with (first | (go_at_call 45; refine (see_nil _ _ (by omega)).mono ?_; rintro e w' ⟨rfl, rfl⟩) | (go_at_call 46; refine (take_nil _ _ _ _).mono ?_; rintro e w' ⟨rfl, rfl⟩))
  go_ret
  exact ⟨rfl, rfl⟩
theorem rname_nil (w : World) : Calls Try.prog 31 #[.pointer none] w fun e w' => e = .returned (.string ByteArray.empty) ∧ w = w' := by
  go_enter Try.func31, Try.ntmps31
  go_wp2_with (first | (go_at_call 45; refine (see_nil _ _ (by omega)).mono ?_; rintro e w' ⟨rfl, rfl⟩) | (go_at_call 46; refine (take_nil _ _ _ _).mono ?_; rintro e w' ⟨rfl, rfl⟩))
  go_ret
  exact ⟨rfl, rfl⟩
theorem rpart_nil (w : World) (n : Int) : Calls Try.prog 33 #[.pointer none, .int .i64 n] w fun e w' => e = .returned (.string ByteArray.empty) ∧ w = w' := by
  go_enter Try.func33, Try.ntmps33
  go_wp2_with (first | (go_at_call 45; refine (see_nil _ _ (by omega)).mono ?_; rintro e w' ⟨rfl, rfl⟩) | (go_at_call 46; refine (take_nil _ _ _ _).mono ?_; rintro e w' ⟨rfl, rfl⟩))
  go_ret
  exact ⟨rfl, rfl⟩
theorem rraw_nil (w : World) (n : Int) : Calls Try.prog 35 #[.pointer none, .int .i64 n] w fun e w' => e = .returned (.string ByteArray.empty) ∧ w = w' := by
  go_enter Try.func35, Try.ntmps35
  go_wp2_with (first | (go_at_call 46; refine (take_nil _ _ _ _).mono ?_; rintro e w' ⟨rfl, rfl⟩))
  go_ret
  exact ⟨rfl, rfl⟩
end Go.Proofs.Ytaddckdbhakgmaa
