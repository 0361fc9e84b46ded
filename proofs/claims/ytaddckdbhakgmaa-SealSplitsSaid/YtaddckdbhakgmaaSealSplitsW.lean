/- the walk of SealSplits -/
import Derived.Test.YtaddckdbhakgmaaSealLaw
import Derived.OpenShut
namespace Go.Proofs.Ytaddckdbhakgmaa
open Go.RowKit
open Rf

/-- what the walk is told of a []int that came in -/
def Row64 (w : World) (a : Option Addr) (len : Nat) (z : Nat → Int) : Prop :=
  ∀ i, i < len → ∃ b off, a = some ⟨b, off, none⟩ ∧ w.cell? ⟨b, off + i, none⟩ = some (.int .i64 (z i)) ∧ b < w.heap.size

theorem Row64.below {w w' : World} {a : Option Addr} {len : Nat} {z : Nat → Int} (h : Row64 w a len z) (hb : Below w.heap.size w w') : Row64 w' a len z := by
  intro i hi
  obtain ⟨b, off, ha, hc, hl⟩ := h i hi
  exact ⟨b, off, ha, (hb.cell (p := ⟨b, off + i, none⟩) hl).trans hc, Nat.lt_of_lt_of_le hl hb.size⟩

theorem more_nil (l : List UInt8) : Adler.more (Adler.sum l) [] = Adler.sum l := by rw [Adler.sum_append, List.append_nil]

theorem extract_rest (r : ByteArray) (n : Nat) : byts (r.extract n r.size) = (byts r).drop n := by
  simp [byts]
  rw [List.take_of_length_le (by simp)]

theorem int_mod_fits (z : Int) (m : Nat) (hm : 0 < m) (hm2 : m ≤ 100000) : ∃ n : Nat, wrap64 ((IntKind.u64.wrap z).tmod (m : Int)) = (n : Int) ∧ n < m := by
  have h0 : 0 ≤ IntKind.u64.wrap z := by rw [IntKind.wrap_u64]; omega
  rw [Int.tmod_eq_emod_of_nonneg h0]
  have h1' := Int.emod_nonneg (IntKind.u64.wrap z) (show (m : Int) ≠ 0 by omega)
  have h2' := Int.emod_lt_of_pos (IntKind.u64.wrap z) (show (0 : Int) < m by omega)
  generalize IntKind.u64.wrap z % (m : Int) = q at *
  refine ⟨q.toNat, ?_, by omega⟩
  rw [IntWalk.wrap64_in _ (by omega)]
  omega

set_option maxHeartbeats 400000 in
theorem sealSplits_big (s : ByteArray) (a : Option Addr) (len cap : Nat) (hs : s.size ≤ maxLen) (hl : len ≤ maxLen) (h : 4096 < s.size ∨ 20 < len) (w : World) :
    Calls Try.prog 6 #[.string s, .slice a len cap] w fun e w' => e = .returned (.bool true) ∧ Below w.heap.size w w' := by
  unfold maxLen at hs hl
  by_cases h1 : 4096 < s.size
  · go_enter Try.func6, Try.ntmps6
    go_wp2_with fail
    refine (awake3_c _).mono ?_
    rintro e w1 ⟨rfl, hb1⟩
    go_wp2_with fail
    go_ret
    exact ⟨rfl, hb1⟩
  · have h2 : 20 < len := by omega
    go_enter Try.func6, Try.ntmps6
    go_wp2_with fail
    refine (awake3_c _).mono ?_
    rintro e w1 ⟨rfl, hb1⟩
    go_wp2_with fail
    go_ret
    exact ⟨rfl, hb1⟩

set_option maxHeartbeats 1000000 in
theorem sealSplits_small (s : ByteArray) (a : Option Addr) (len cap : Nat) (z : Nat → Int) (hs : s.size ≤ 4096) (hl : len ≤ 20) (w : World) (hr : Row64 w a len z) :
    Calls Try.prog 6 #[.string s, .slice a len cap] w fun e w' => e = .returned (.bool true) ∧ Below w.heap.size w w' := by
  have hs' : s.size ≤ maxLen := by unfold maxLen; omega
  have hsum := Adler.more_bd 1 []
  go_enter Try.func6, Try.ntmps6
  go_wp2_with fail
  refine (awake3_c _).mono ?_
  rintro e w1 ⟨rfl, hb1⟩
  have hr1 := hr.below hb1
  go_wp2_with fail
  refine (of_is _ (Adler.sum []) rfl (by decide) _).mono ?_
  rintro e w' ⟨rfl, rfl⟩
  go_wp2_with fail
  refine (of_is _ (Adler.sum []) rfl (by decide) _).mono ?_
  rintro e w' ⟨rfl, rfl⟩
  go_wp2_with fail
  go_loop [5, 6, 7, 8] (fun x y r i => ∃ (k : Nat) (l : List UInt8) (q : ByteArray), k ≤ len ∧ i = .int .i64 k ∧ byts s = l ++ byts q ∧ r = .string q ∧ x = .int .u32 (Adler.sum l) ∧ y = .int .u32 (Adler.sum l)) (fun _ _ _ i => len - (intOf i).toNat)
  case atStart => exact ⟨0, [], s, Nat.zero_le _, rfl, rfl, rfl, rfl, rfl⟩
  case round =>
    obtain ⟨k, l, q, hk, rfl, hsl, rfl, rfl, rfl⟩ := hrel
    have hq : l.length + q.size = s.size := by rw [← byts_length s, hsl, List.length_append, byts_length]
    have hqs : q.size ≤ 4096 := by omega
    replace hq := Lib.hid hq
    replace hsl := Lib.hid hsl
    obtain ⟨p0, p1⟩ : 0 ≤ Adler.sum l ∧ Adler.sum l ≤ 4294967295 := Adler.more_bd 1 l
    by_cases hlt : k < len
    · obtain ⟨b, off, rfl, hc, _⟩ := hr1 k hlt
      clear hr hr1
      obtain ⟨n, hn, hnq⟩ := int_mod_fits (z k) (q.size + 1) (by omega) (by omega)
      have e1 : ((q.size + 1 : Nat) : Int) = (q.size : Int) + 1 := by omega
      rw [e1] at hn
      clear e1
      have hn1 : (n : Int) ≤ (q.size : Int) := by omega
      have hsplit : byts q = (byts q).take n ++ (byts q).drop n := (List.take_append_drop n _).symm
      replace hsplit := Lib.hid hsplit
      go_wp2_with fail
      refine (more_is _ _ (Adler.sum (l ++ (byts q).take n)) (by rw [extract_text, byts_text, Adler.sum_append]) p0 p1 (by unfold maxLen; simp; omega) _).mono ?_
      rintro e w' ⟨rfl, rfl⟩
      go_wp2_with fail
      refine (of_is _ (Adler.sum ((byts q).take n)) (by rw [extract_text, byts_text]) (by unfold maxLen; simp; omega) _).mono ?_
      rintro e w' ⟨rfl, rfl⟩
      go_wp2_with fail
      obtain ⟨r0, r1⟩ : 0 ≤ Adler.sum ((byts q).take n) ∧ Adler.sum ((byts q).take n) ≤ 4294967295 := Adler.more_bd 1 _
      refine (join_is _ _ _ (Adler.sum (l ++ (byts q).take n)) (by rw [← Adler.join_sum, List.length_take, byts_length, Nat.min_eq_left (by omega)]) p0 p1 r0 r1 (by omega) (by omega) _).mono ?_
      rintro e w' ⟨rfl, rfl⟩
      go_wp2_with fail
      go_round
      case rel => exact ⟨k + 1, l ++ (byts q).take n, _, by omega, by go_num, by rw [hsl.out, extract_rest, List.append_assoc, ← hsplit.out], rfl, rfl, rfl⟩
      case measure => simp [intOf]; omega
    · have hall : Adler.more (Adler.sum l) (byts q) = Adler.sum (byts s) := by rw [Adler.sum_append, hsl.out]
      have hjo : Adler.joinF (Adler.sum l) (Adler.sum (byts q)) (q.size : Int) = Adler.sum (byts s) := by rw [← byts_length, Adler.join_sum, hsl.out]
      have hqm : q.size ≤ maxLen := by unfold maxLen; omega
      go_wp2_with fail
      refine (more_is _ _ _ hall p0 p1 hqm _).mono ?_
      rintro e w' ⟨rfl, rfl⟩
      go_wp2_with fail
      refine (of_c s hs' _).mono ?_
      rintro e w' ⟨rfl, rfl⟩
      go_wp2_with fail
      refine (of_c q hqm _).mono ?_
      rintro e w' ⟨rfl, rfl⟩
      go_wp2_with fail
      obtain ⟨r0, r1⟩ : 0 ≤ Adler.sum (byts q) ∧ Adler.sum (byts q) ≤ 4294967295 := Adler.more_bd 1 _
      refine (join_is _ _ _ _ hjo p0 p1 r0 r1 (by omega) (by omega) _).mono ?_
      rintro e w' ⟨rfl, rfl⟩
      go_wp2_with fail
      refine (of_c s hs' _).mono ?_
      rintro e w' ⟨rfl, rfl⟩
      go_wp2_with fail
      go_ret
      exact ⟨rfl, hb1⟩

theorem sealSplits_any (s : ByteArray) (hs : s.size ≤ maxLen) (a : Option Addr) (len cap : Nat) (z : Nat → Int) (w : World) (hl : len ≤ maxLen) (hr : Row64 w a len z) :
    Calls Try.prog 6 #[.string s, .slice a len cap] w fun e w' => e = .returned (.bool true) ∧ Below w.heap.size w w' := by
  by_cases h : 4096 < s.size ∨ 20 < len
  · exact sealSplits_big s a len cap hs hl h w
  · exact sealSplits_small s a len cap z (by omega) (by omega) w hr
end Go.Proofs.Ytaddckdbhakgmaa
