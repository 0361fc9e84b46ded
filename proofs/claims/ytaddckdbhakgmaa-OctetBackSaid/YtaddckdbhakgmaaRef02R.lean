/- the walks over the reference of layer 2: what is read -/
import Derived.Test.YtaddckdbhakgmaaOctR2
namespace Go.Proofs.Ytaddckdbhakgmaa
open Go.RowKit
open Rf

section
variable {w : World} {b : Nat} {l : List UInt8} {bad : Bool}

set_option maxHeartbeats 400000 in
theorem uraw_c (h : IsR 57 w b l bad) (n : Int) :
    Answers 36 #[.pointer (some ⟨b, 0, none⟩), .int .i64 n] (.string (text (rRaw n l bad).1)) 57 w b (rRaw n l bad).2.1 (rRaw n l bad).2.2 := by
  unfold Answers
  have c0 := h.c0
  have c1 := h.c1
  have f0 := h.f 0
  have f1 := h.f 1
  have hs := text_size l
  by_cases hc : bad = false ∧ 0 ≤ n ∧ n ≤ (l.length : Int)
  · rw [show rRaw n l bad = (l.take n.toNat, l.drop n.toNat, false) from if_pos hc]
    obtain ⟨rfl, h0, hn⟩ := hc
    obtain ⟨n, rfl⟩ := Int.eq_ofNat_of_zero_le h0
    have e1 := extract_mid l 0 n
    have e2 := extract_end l n
    rw [List.drop_zero, Nat.sub_zero] at e1
    rw [hs] at e2
    have hset := h.set0 (l.drop n)
    have hgr := grown_set w b 0 (.string (text (l.drop n)))
    simp only [Int.toNat_natCast]
    go_enter Try.func36, Try.ntmps36
    go_wp2_with fail
    go_ret
    exact ⟨rfl, hset, hgr⟩
  · rw [show rRaw n l bad = ([], l, true) from if_neg hc]
    have hset := h.set1 true
    have hgr := grown_set w b 1 (.bool true)
    cases bad with
    | true =>
      clear hc
      go_enter Try.func36, Try.ntmps36
      go_wp2_with fail
      go_ret
      exact ⟨rfl, hset, hgr⟩
    | false =>
      by_cases hn : n < 0
      · clear hc
        go_enter Try.func36, Try.ntmps36
        go_wp2_with fail
        go_ret
        exact ⟨rfl, hset, hgr⟩
      · have hn1 : (l.length : Int) < n := by
          have : ¬ (0 ≤ n ∧ n ≤ (l.length : Int)) := fun hk => hc ⟨rfl, hk⟩
          omega
        clear hc
        go_enter Try.func36, Try.ntmps36
        go_wp2_with fail
        go_ret
        exact ⟨rfl, hset, hgr⟩

set_option maxHeartbeats 400000 in
theorem uleft_c (h : IsR 57 w b l bad) : Calls Try.prog 39 #[.pointer (some ⟨b, 0, none⟩)] w fun e w' => e = .returned (.int .i64 (rLeft l bad)) ∧ w = w' := by
  have c0 := h.c0
  have c1 := h.c1
  have hs := text_size l
  cases bad with
  | true =>
    go_enter Try.func39, Try.ntmps39
    go_wp2_with fail
    go_ret
    exact ⟨rfl, rfl⟩
  | false =>
    go_enter Try.func39, Try.ntmps39
    go_wp2_with fail
    go_ret
    exact ⟨rfl, rfl⟩

theorem rRaw_yes {n : Int} {l : List UInt8} (h0 : 0 ≤ n) (hn : n ≤ (l.length : Int)) : rRaw n l false = (l.take n.toNat, l.drop n.toNat, false) := if_pos ⟨rfl, h0, hn⟩
theorem rRaw_bad {n : Int} {l : List UInt8} : rRaw n l true = ([], l, true) := if_neg (fun h => by cases h.1)
theorem rRaw_no {n : Int} {l : List UInt8} (hn : n < 0 ∨ (l.length : Int) < n) : rRaw n l false = ([], l, true) := if_neg (fun h => by have := h.2; omega)

set_option maxHeartbeats 1000000 in
/-- the loop of Num over the bytes that were read -/
theorem unum_of (h : IsR 57 w b l bad) (k : Int) (hk : k = 1 ∨ k = 2 ∨ k = 4 ∨ k = 8) (m l' : List UInt8) (bad' : Bool) (hm : rRaw k l bad = (m, l', bad')) (hml : m.length ≤ 8) :
    Answers 30 #[.pointer (some ⟨b, 0, none⟩), .int .i64 k] (.int .u64 (num m)) 57 w b l' bad' := by
  unfold Answers
  have hr := uraw_c h k
  rw [hm] at hr
  unfold Answers at hr
  dsimp only at hr
  replace hr := Lib.hid hr
  have hs := text_size m
  have hget : ∀ (i : Nat) (hi : i < m.length) (hi' : i < (text m).size), (text m)[i]'hi' = m[i] := fun i hi hi' => text_getElem m i hi'
  replace hget := Lib.hid hget
  clear hm
  have hkk : ((k != 1) && (k != 2) && (k != 4) && (k != 8)) = false := by rcases hk with rfl | rfl | rfl | rfl <;> rfl
  rcases hk with rfl | rfl | rfl | rfl
  all_goals
    clear hkk
    go_enter Try.func30, Try.ntmps30
    go_wp2_with fail
    refine hr.out.mono ?_
    rintro e w1 ⟨rfl, hr1, hg1⟩
    go_wp2_with fail
    go_loop [6, 7] (fun n i => ∃ j : Int, -1 ≤ j ∧ j < (m.length : Int) ∧ i = .int .i64 j ∧ n = .int .u64 (num (m.drop (j + 1).toNat))) (fun _ i => (intOf i + 1).toNat)
    case atStart => exact ⟨(m.length : Int) - 1, by omega, by omega, rfl, by rw [List.drop_eq_nil_of_le (by omega)]; rfl⟩
    case round =>
      obtain ⟨j, hj0, hj1, rfl, rfl⟩ := hrel
      by_cases hlt : 0 ≤ j
      · obtain ⟨i, rfl⟩ := Int.eq_ofNat_of_zero_le hlt
        have hi : i < m.length := by omega
        have hsm := num_small m (i + 1) (by omega)
        have hil : i < (text m).size := by omega
        have hix : (text m)[i]'hil = m[i] := hget.out i hi hil
        have hst : num (m.drop i) = (((text m)[i]'hil).toNat : Int) + 256 * num (m.drop (i + 1)) := by rw [hix]; exact num_step m i hi
        rw [show ((i : Int) + 1).toNat = i + 1 by omega]
        have hby : ((text m)[i]'hil).toNat < 256 := ((text m)[i]'hil).toNat_lt
        replace hst := Lib.hid hst
        clear hix
        generalize num (m.drop (i + 1)) = n at *
        have hilI : (i : Int) < (m.length : Int) := by omega
        go_wp2_with fail
        go_round
        case rel => exact ⟨(i : Int) - 1, by omega, by omega, rfl, by rw [show ((i : Int) - 1 + 1).toNat = i by omega, hst.out, Int.mul_comm 256, Int.add_comm]⟩
        case measure => simp [intOf]
      · obtain rfl : j = -1 := by omega
        go_wp2_with fail
        go_ret
        exact ⟨rfl, hr1, hg1⟩

set_option maxHeartbeats 1000000 in
theorem unum_not (h : IsR 57 w b l bad) (k : Int) (hk : isW k = false) :
    Answers 30 #[.pointer (some ⟨b, 0, none⟩), .int .i64 k] (.int .u64 0) 57 w b l true := by
  unfold Answers
  simp only [isW, Bool.or_eq_false_iff, beq_eq_false_iff_ne] at hk
  obtain ⟨⟨⟨h1, h2⟩, h4⟩, h8⟩ := hk
  have e1 : (k != 1) = true := bne_iff_ne.2 h1
  have e2 : (k != 2) = true := bne_iff_ne.2 h2
  have e4 : (k != 4) = true := bne_iff_ne.2 h4
  have e8 : (k != 8) = true := bne_iff_ne.2 h8
  clear h1 h2 h4 h8
  have hs0 : (text []).size = 0 := rfl
  have c1 := h.c1
  have f1 := h.f 1
  have hset := h.set1 true
  have hgr := grown_set w b 1 (.bool true)
  have hr := uraw_c hset k
  rw [rRaw_bad] at hr
  unfold Answers at hr
  dsimp only at hr
  replace hr := Lib.hid hr
  go_enter Try.func30, Try.ntmps30
  go_wp2_with fail
  refine hr.out.mono ?_
  rintro e w1 ⟨rfl, hr1, hg1⟩
  go_wp2_with fail
  go_loop [6, 7] (fun n i => i = .int .i64 (-1) ∧ n = .int .u64 0) (fun _ i => (intOf i + 1).toNat)
  case atStart => exact ⟨rfl, rfl⟩
  case round =>
    obtain ⟨rfl, rfl⟩ := hrel
    go_wp2_with fail
    go_ret
    exact ⟨rfl, hr1, grown_trans hgr hg1⟩

theorem unum_c (h : IsR 57 w b l bad) (k : Int) :
    Answers 30 #[.pointer (some ⟨b, 0, none⟩), .int .i64 k] (.int .u64 (rNum k l bad).1) 57 w b (rNum k l bad).2.1 (rNum k l bad).2.2 := by
  by_cases hw : isW k = true
  · have hk : k = 1 ∨ k = 2 ∨ k = 4 ∨ k = 8 := by simp only [isW, Bool.or_eq_true, beq_iff_eq] at hw; omega
    by_cases hc : bad = false ∧ k ≤ (l.length : Int)
    · rw [show rNum k l bad = (num (l.take k.toNat), l.drop k.toNat, false) from if_pos ⟨hc.1, hw, hc.2⟩]
      obtain ⟨rfl, hk2⟩ := hc
      exact unum_of h k hk (l.take k.toNat) (l.drop k.toNat) false (rRaw_yes (by omega) hk2) (by rw [List.length_take]; omega)
    · rw [show rNum k l bad = (0, l, true) from if_neg (fun hh => hc ⟨hh.1, hh.2.2⟩)]
      have e : rRaw k l bad = ([], l, true) := if_neg (fun hh => hc ⟨hh.1, hh.2.2⟩)
      exact unum_of h k hk [] l true e (by simp)
  · have hw : isW k = false := by simpa using hw
    rw [show rNum k l bad = (0, l, true) from if_neg (fun hh => by rw [hw] at hh; cases hh.2.1)]
    exact unum_not h k hw

theorem rNum_bad {k : Int} {l : List UInt8} : rNum k l true = (0, l, true) := if_neg (fun h => by cases h.1)
theorem rNum_yes {k : Int} {l : List UInt8} (hw : isW k = true) (hk : k ≤ (l.length : Int)) : rNum k l false = (num (l.take k.toNat), l.drop k.toNat, false) := if_pos ⟨rfl, hw, hk⟩
theorem rNum_short {k : Int} {l : List UInt8} (hk : (l.length : Int) < k) : rNum k l false = (0, l, true) := if_neg (fun h => by have := h.2.2; omega)
theorem rText_bad {f : Nat} {most : Int} {l : List UInt8} : rText f most l true = ([], l, true) := if_neg (fun h => by cases h.1)

/-- a reader that is given back what it had, and made bad -/
theorem IsR.back {T : TypeId} {w : World} {b : Nat} {l : List UInt8} {bad : Bool} (h : IsR T w b l bad) (l' : List UInt8) :
    IsR T ((w.setCell ⟨b, 0, none⟩ (.string (text l'))).setCell ⟨b, 1, none⟩ (.bool true)) b l' true ∧ w.grownBy ((w.setCell ⟨b, 0, none⟩ (.string (text l'))).setCell ⟨b, 1, none⟩ (.bool true)) (some b) :=
  ⟨(h.set0 l').set1 true, grown_trans (grown_set _ _ _ _) (grown_set _ _ _ _)⟩

set_option maxHeartbeats 800000 in
theorem uname_c (h : IsR 57 w b l bad) :
    Answers 32 #[.pointer (some ⟨b, 0, none⟩)] (.string (text (rText 1 255 l bad).1)) 57 w b (rText 1 255 l bad).2.1 (rText 1 255 l bad).2.2 := by
  unfold Answers
  have hnum := unum_c h 1
  unfold Answers at hnum
  have c0 := h.c0
  have hb := num_take1 l
  cases bad with
  | true =>
    rw [rNum_bad] at hnum
    rw [rText_bad]
    replace hnum := Lib.hid hnum
    go_enter Try.func32, Try.ntmps32
    go_wp2_with fail
    refine hnum.out.mono ?_
    rintro e w1 ⟨rfl, hr1, hg1⟩
    have d0 := hr1.c0
    have d1 := hr1.c1
    have f0 := hr1.f 0
    have f1 := hr1.f 1
    obtain ⟨k0, k1⟩ := hr1.back l
    go_wp2_with fail
    go_ret
    exact ⟨rfl, k0, grown_trans hg1 k1⟩
  | false =>
    by_cases h1 : 1 ≤ l.length
    · rw [rNum_yes rfl (by omega), show (1 : Int).toNat = 1 from rfl] at hnum
      by_cases h2 : num (l.take 1) ≤ (l.length : Int) - 1
      · rw [show rText 1 255 l false = ((l.drop 1).take (num (l.take 1)).toNat, l.drop (1 + (num (l.take 1)).toNat), false) from if_pos ⟨rfl, h1, hb.2, h2⟩, ← List.drop_drop]
        have hl1 : ((l.drop 1).length : Int) = (l.length : Int) - 1 := by rw [List.length_drop]; omega
        generalize l.drop 1 = l1 at *
        generalize num (l.take 1) = n at *
        have h3 : n ≤ (l1.length : Int) := by omega
        have hs1 := text_size l1
        clear hl1
        replace hnum := Lib.hid hnum
        go_enter Try.func32, Try.ntmps32
        go_wp2_with fail
        refine hnum.out.mono ?_
        rintro e w1 ⟨rfl, hr1, hg1⟩
        have d0 := hr1.c0
        have d1 := hr1.c1
        have hraw := uraw_c hr1 n
        rw [rRaw_yes hb.1 h3] at hraw
        unfold Answers at hraw
        replace hraw := Lib.hid hraw
        go_wp2_with fail
        refine hraw.out.mono ?_
        rintro e w2 ⟨rfl, hr2, hg2⟩
        go_wp2_with fail
        go_ret
        exact ⟨rfl, hr2, grown_trans hg1 hg2⟩
      · rw [show rText 1 255 l false = ([], l, true) from if_neg (fun hh => h2 hh.2.2.2)]
        have hl1 : ((l.drop 1).length : Int) = (l.length : Int) - 1 := by rw [List.length_drop]; omega
        generalize l.drop 1 = l1 at *
        generalize num (l.take 1) = n at *
        have h3 : (l1.length : Int) < n := by omega
        have hs1 := text_size l1
        clear hl1
        replace hnum := Lib.hid hnum
        go_enter Try.func32, Try.ntmps32
        go_wp2_with fail
        refine hnum.out.mono ?_
        rintro e w1 ⟨rfl, hr1, hg1⟩
        have d0 := hr1.c0
        have d1 := hr1.c1
        have f0 := hr1.f 0
        have f1 := hr1.f 1
        obtain ⟨k0, k1⟩ := hr1.back l
        go_wp2_with fail
        go_ret
        exact ⟨rfl, k0, grown_trans hg1 k1⟩
    · rw [rNum_short (by omega)] at hnum
      rw [show rText 1 255 l false = ([], l, true) from if_neg (fun hh => h1 hh.2.1)]
      replace hnum := Lib.hid hnum
      go_enter Try.func32, Try.ntmps32
      go_wp2_with fail
      refine hnum.out.mono ?_
      rintro e w1 ⟨rfl, hr1, hg1⟩
      have d0 := hr1.c0
      have d1 := hr1.c1
      have f0 := hr1.f 0
      have f1 := hr1.f 1
      obtain ⟨k0, k1⟩ := hr1.back l
      go_wp2_with fail
      go_ret
      exact ⟨rfl, k0, grown_trans hg1 k1⟩

set_option maxHeartbeats 800000 in
theorem upart_c (h : IsR 57 w b l bad) (most : Int) :
    Answers 34 #[.pointer (some ⟨b, 0, none⟩), .int .i64 most] (.string (text (rText 4 most l bad).1)) 57 w b (rText 4 most l bad).2.1 (rText 4 most l bad).2.2 := by
  unfold Answers
  have hnum := unum_c h 4
  unfold Answers at hnum
  have c0 := h.c0
  have hb := num_take4 l
  cases bad with
  | true =>
    rw [rNum_bad] at hnum
    rw [rText_bad]
    replace hnum := Lib.hid hnum
    go_enter Try.func34, Try.ntmps34
    go_wp2_with fail
    refine hnum.out.mono ?_
    rintro e w1 ⟨rfl, hr1, hg1⟩
    have d0 := hr1.c0
    have d1 := hr1.c1
    have f0 := hr1.f 0
    have f1 := hr1.f 1
    obtain ⟨k0, k1⟩ := hr1.back l
    go_wp2_with fail
    go_ret
    exact ⟨rfl, k0, grown_trans hg1 k1⟩
  | false =>
    by_cases h1 : 4 ≤ l.length
    · rw [rNum_yes rfl (by omega), show (4 : Int).toNat = 4 from rfl] at hnum
      by_cases hm : num (l.take 4) ≤ most
      · by_cases h2 : num (l.take 4) ≤ (l.length : Int) - 4
        · rw [show rText 4 most l false = ((l.drop 4).take (num (l.take 4)).toNat, l.drop (4 + (num (l.take 4)).toNat), false) from if_pos ⟨rfl, h1, hm, h2⟩, ← List.drop_drop]
          have hl1 : ((l.drop 4).length : Int) = (l.length : Int) - 4 := by rw [List.length_drop]; omega
          generalize l.drop 4 = l1 at *
          generalize num (l.take 4) = n at *
          have h3 : n ≤ (l1.length : Int) := by omega
          have hs1 := text_size l1
          clear hl1
          replace hnum := Lib.hid hnum
          go_enter Try.func34, Try.ntmps34
          go_wp2_with fail
          refine hnum.out.mono ?_
          rintro e w1 ⟨rfl, hr1, hg1⟩
          have d0 := hr1.c0
          have d1 := hr1.c1
          have hraw := uraw_c hr1 n
          rw [rRaw_yes hb.1 h3] at hraw
          unfold Answers at hraw
          replace hraw := Lib.hid hraw
          go_wp2_with fail
          refine hraw.out.mono ?_
          rintro e w2 ⟨rfl, hr2, hg2⟩
          go_wp2_with fail
          go_ret
          exact ⟨rfl, hr2, grown_trans hg1 hg2⟩
        · rw [show rText 4 most l false = ([], l, true) from if_neg (fun hh => h2 hh.2.2.2)]
          have hl1 : ((l.drop 4).length : Int) = (l.length : Int) - 4 := by rw [List.length_drop]; omega
          generalize l.drop 4 = l1 at *
          generalize num (l.take 4) = n at *
          have h3 : (l1.length : Int) < n := by omega
          have hs1 := text_size l1
          clear hl1
          replace hnum := Lib.hid hnum
          go_enter Try.func34, Try.ntmps34
          go_wp2_with fail
          refine hnum.out.mono ?_
          rintro e w1 ⟨rfl, hr1, hg1⟩
          have d0 := hr1.c0
          have d1 := hr1.c1
          have f0 := hr1.f 0
          have f1 := hr1.f 1
          obtain ⟨k0, k1⟩ := hr1.back l
          go_wp2_with fail
          go_ret
          exact ⟨rfl, k0, grown_trans hg1 k1⟩
      · rw [show rText 4 most l false = ([], l, true) from if_neg (fun hh => hm hh.2.2.1)]
        have hl1 : ((l.drop 4).length : Int) = (l.length : Int) - 4 := by rw [List.length_drop]; omega
        generalize l.drop 4 = l1 at *
        generalize num (l.take 4) = n at *
        have h3 : most < n := by omega
        have hs1 := text_size l1
        clear hl1
        replace hnum := Lib.hid hnum
        go_enter Try.func34, Try.ntmps34
        go_wp2_with fail
        refine hnum.out.mono ?_
        rintro e w1 ⟨rfl, hr1, hg1⟩
        have d0 := hr1.c0
        have d1 := hr1.c1
        have f0 := hr1.f 0
        have f1 := hr1.f 1
        obtain ⟨k0, k1⟩ := hr1.back l
        go_wp2_with fail
        go_ret
        exact ⟨rfl, k0, grown_trans hg1 k1⟩
    · rw [rNum_short (by omega)] at hnum
      rw [show rText 4 most l false = ([], l, true) from if_neg (fun hh => h1 hh.2.1)]
      replace hnum := Lib.hid hnum
      go_enter Try.func34, Try.ntmps34
      go_wp2_with fail
      refine hnum.out.mono ?_
      rintro e w1 ⟨rfl, hr1, hg1⟩
      have d0 := hr1.c0
      have d1 := hr1.c1
      have f0 := hr1.f 0
      have f1 := hr1.f 1
      obtain ⟨k0, k1⟩ := hr1.back l
      go_wp2_with fail
      go_ret
      exact ⟨rfl, k0, grown_trans hg1 k1⟩
end
end Go.Proofs.Ytaddckdbhakgmaa
