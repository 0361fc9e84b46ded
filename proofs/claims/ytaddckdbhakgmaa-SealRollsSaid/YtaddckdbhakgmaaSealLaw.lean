/- the walk of the statements' own anchor (layer 3) -/
import Derived.Test.YtaddckdbhakgmaaSealS
namespace Go.Proofs.Ytaddckdbhakgmaa
open Go.RowKit
open Rf

theorem of_is (s : ByteArray) (n : Int) (h : Adler.sum (byts s) = n) (hs : s.size ≤ maxLen) (w : World) :
    Calls Try.prog 11 #[.string s] w fun e w' => e = .returned (.int .u32 n) ∧ w = w' := by
  subst h; exact of_c s hs w
theorem more_is (x : Int) (s : ByteArray) (n : Int) (h : Adler.more x (byts s) = n) (h0 : 0 ≤ x) (h1 : x ≤ 4294967295) (hs : s.size ≤ maxLen) (w : World) :
    Calls Try.prog 13 #[.int .u32 x, .string s] w fun e w' => e = .returned (.int .u32 n) ∧ w = w' := by
  subst h; exact more_c x s h0 h1 hs w
theorem roll_is (s n out inn r : Int) (h : Adler.rollF s n out inn = r) (h0 : 0 ≤ s) (h1 : s ≤ 4294967295) (ha : 1 ≤ n) (hb : n ≤ 2147483648) (ho : 0 ≤ out) (ho' : out ≤ 255) (hi : 0 ≤ inn) (hi' : inn ≤ 255) (w : World) :
    Calls Try.prog 17 #[.int .u32 s, .int .i64 n, .int .u8 out, .int .u8 inn] w fun e w' => e = .returned (.int .u32 r) ∧ w = w' := by
  subst h; exact roll_yes s n out inn h0 h1 ha hb ho ho' hi hi' w
theorem join_is (x y n r : Int) (h : Adler.joinF x y n = r) (h0 : 0 ≤ x) (h1 : x ≤ 4294967295) (h2 : 0 ≤ y) (h3 : y ≤ 4294967295) (ha : 0 ≤ n) (hb : n ≤ 2147483648) (w : World) :
    Calls Try.prog 18 #[.int .u32 x, .int .u32 y, .int .i64 n] w fun e w' => e = .returned (.int .u32 r) ∧ w = w' := by
  subst h; exact join_yes x y n h0 h1 h2 h3 ha hb w

set_option maxHeartbeats 400000 in
theorem awake3_c (w : World) : Calls Try.prog 10 #[] w fun e w' => e = .returned (.bool true) ∧ Below w.heap.size w w' := by
  go_enter Try.func10, Try.ntmps10
  go_wp2_with fail
  refine (stamp_c _ (by decide) _).mono ?_
  rintro e w1 ⟨rfl, hb1⟩
  go_wp2_with fail
  refine (open_yes _ (byts ⟨#[97, 98, 99]⟩) (by rw [byts_text]) (by rw [text_size]; decide) _).mono ?_
  rintro e w2 ⟨rfl, hb2⟩
  go_wp2_with fail
  refine (open_no ⟨#[97, 98, 99]⟩ (by intro m hm; have := congrArg List.length hm; rw [stampF_length] at this; have h3 : (byts ⟨#[97, 98, 99]⟩).length = 3 := rfl; omega) (by decide) _).mono ?_
  rintro e w3 ⟨rfl, hb3⟩
  rw [show text (byts ⟨#[97, 98, 99]⟩) = ⟨#[97, 98, 99]⟩ from text_byts _]
  have hb : Below w.heap.size w w3 := hb1.trans ((hb2.mono hb1.size).trans (hb3.mono (Nat.le_trans hb1.size hb2.size)))
  clear hb1 hb2 hb3
  go_wp2_with fail
  refine (of_is _ 300286872 (by decide +kernel) (by decide +kernel) _).mono ?_
  rintro e w' ⟨rfl, rfl⟩
  go_wp2_with fail
  refine (of_is _ 1 (by decide +kernel) (by decide +kernel) _).mono ?_
  rintro e w' ⟨rfl, rfl⟩
  go_wp2_with fail
  refine (of_is _ (Adler.sum [87, 105, 107, 105]) (by decide +kernel) (by decide +kernel) _).mono ?_
  rintro e w' ⟨rfl, rfl⟩
  go_wp2_with fail
  refine (more_is _ _ 300286872 (by decide +kernel) (by decide +kernel) (by decide +kernel) (by decide +kernel) _).mono ?_
  rintro e w' ⟨rfl, rfl⟩
  go_wp2_with fail
  refine (of_is _ (Adler.sum [97, 98, 99]) (by decide +kernel) (by decide +kernel) _).mono ?_
  rintro e w' ⟨rfl, rfl⟩
  go_wp2_with fail
  refine (roll_is _ _ _ _ (Adler.sum [98, 99, 100]) (by decide +kernel) (by decide +kernel) (by decide +kernel) (by decide +kernel) (by decide +kernel) (by decide +kernel) (by decide +kernel) (by decide +kernel) (by decide +kernel) _).mono ?_
  rintro e w' ⟨rfl, rfl⟩
  go_wp2_with fail
  refine (of_is _ (Adler.sum [98, 99, 100]) (by decide +kernel) (by decide +kernel) _).mono ?_
  rintro e w' ⟨rfl, rfl⟩
  go_wp2_with fail
  refine (of_is _ (Adler.sum [97, 98]) (by decide +kernel) (by decide +kernel) _).mono ?_
  rintro e w' ⟨rfl, rfl⟩
  go_wp2_with fail
  refine (of_is _ (Adler.sum [99]) (by decide +kernel) (by decide +kernel) _).mono ?_
  rintro e w' ⟨rfl, rfl⟩
  go_wp2_with fail
  refine (join_is _ _ _ (Adler.sum [97, 98, 99]) (by decide +kernel) (by decide +kernel) (by decide +kernel) (by decide +kernel) (by decide +kernel) (by decide +kernel) (by decide +kernel) _).mono ?_
  rintro e w' ⟨rfl, rfl⟩
  go_wp2_with fail
  refine (of_is _ (Adler.sum [97, 98, 99]) (by decide +kernel) (by decide +kernel) _).mono ?_
  rintro e w' ⟨rfl, rfl⟩
  go_wp2_with fail
  go_ret
  exact ⟨rfl, hb⟩
end Go.Proofs.Ytaddckdbhakgmaa
