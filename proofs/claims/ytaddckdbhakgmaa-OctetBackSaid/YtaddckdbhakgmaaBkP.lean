/- OctetBack, the plain law: what was written is read as it was; without its last byte the reader ends bad -/
import Derived.Test.YtaddckdbhakgmaaActs
namespace Go.Proofs.Ytaddckdbhakgmaa
open Rf
namespace Bk
/-- an act that the Writer took -/
def okA (x : ActD) : Prop := (x.K = 1 ∧ okNum x.W x.N = true) ∨ (x.K = 2 ∧ x.S.size ≤ 255) ∨ x.K = 3 ∨ x.K = 4
/-- what is written -/
def encA (x : ActD) : List UInt8 := if x.K = 1 then le x.W.toNat x.N else if x.K = 2 then le 1 x.S.size ++ byts x.S else if x.K = 3 then le 4 x.S.size ++ byts x.S else byts x.S
def enc (l : List ActD) : List UInt8 := l.flatMap encA
/-- an act read: whether it is as it was, what is left, whether the reader is bad -/
def rdA (x : ActD) (l : List UInt8) (bad : Bool) : Bool × List UInt8 × Bool :=
  if x.K = 1 then (decide ((rNum x.W l bad).1 = x.N), (rNum x.W l bad).2) else if x.K = 2 then (decide ((rText 1 255 l bad).1 = byts x.S), (rText 1 255 l bad).2)
  else if x.K = 3 then (decide ((rText 4 x.S.size l bad).1 = byts x.S), (rText 4 x.S.size l bad).2) else (decide ((rRaw x.S.size l bad).1 = byts x.S), (rRaw x.S.size l bad).2)
def backF : List ActD → List UInt8 → Bool → Bool × List UInt8 × Bool
  | [], l, bad => (!bad && l.isEmpty, l, bad)
  | x :: xs, l, bad => if (rdA x l bad).1 = true then backF xs (rdA x l bad).2.1 (rdA x l bad).2.2 else (false, (rdA x l bad).2)

theorem num_back (k : Nat) (n : Int) (h : 0 ≤ n) (hs : sh k n = 0) : num (le k n) = n := by
  have := num_le k n h
  rw [hs, Int.mul_zero] at this
  omega
theorem take_le (k : Nat) (n : Int) (r : List UInt8) : (le k n ++ r).take k = le k n := by
  rw [List.take_append_of_le_length (by rw [le_length]; exact Nat.le_refl _), List.take_of_length_le (by rw [le_length]; exact Nat.le_refl _)]
theorem drop_le (k : Nat) (n : Int) (r : List UInt8) : (le k n ++ r).drop k = r := by
  rw [List.drop_append_of_le_length (by rw [le_length]; exact Nat.le_refl _), List.drop_of_length_le (by rw [le_length]; exact Nat.le_refl _), List.nil_append]
theorem text_back (f : Nat) (most : Int) (s r : List UInt8) (hs : sh f (s.length : Int) = 0) (hm : (s.length : Int) ≤ most) : rText f most (le f s.length ++ s ++ r) false = (s, r, false) := by
  have h1 : (le f s.length ++ s ++ r).take f = le f s.length := by rw [List.append_assoc]; exact take_le f _ _
  have h2 : (le f s.length ++ s ++ r).drop f = s ++ r := by rw [List.append_assoc]; exact drop_le f _ _
  have h3 : num (le f s.length) = (s.length : Int) := num_back f _ (by omega) hs
  unfold rText
  rw [h1, h3, ← List.drop_drop, h2]
  have hl : (le f (s.length : Int) ++ s ++ r).length = f + s.length + r.length := by rw [List.length_append, List.length_append, le_length]
  rw [if_pos ⟨rfl, by omega, hm, by omega⟩]
  rw [show ((s.length : Nat) : Int).toNat = s.length by omega]
  simp
theorem text_bad (f : Nat) (most : Int) (s : List UInt8) (hs : sh f (s.length : Int) = 0) (hf : 0 < f) : (rText f most (le f s.length ++ s).dropLast false).2.2 = true := by
  have hl : (le f (s.length : Int) ++ s).length = f + s.length := by rw [List.length_append, le_length]
  have hd : (le f (s.length : Int) ++ s).dropLast.length = f + s.length - 1 := by rw [List.length_dropLast, hl]
  unfold rText
  rcases Nat.eq_zero_or_pos s.length with h0 | h0
  · rw [if_neg (by rintro ⟨_, h, _⟩; omega)]
  · have ht : (le f (s.length : Int) ++ s).dropLast.take f = le f s.length := by
      rw [List.dropLast_eq_take, List.take_take, Nat.min_eq_left (by omega), take_le]
    rw [ht, num_back f _ (by omega) hs, if_neg (by rintro ⟨_, _, _, h⟩; omega)]
theorem okNum_iff {k n : Int} (h : okNum k n = true) : (k = 1 ∨ k = 2 ∨ k = 4 ∨ k = 8) ∧ sh k.toNat n = 0 := by
  simp only [okNum, isW, Bool.and_eq_true, Bool.or_eq_true, beq_iff_eq] at h
  omega
/-- what was written is read as it was -/
theorem rd_back (x : ActD) (hx : okA x) (ho : x.Ok) (hs : x.S.size ≤ 1024) (r : List UInt8) : rdA x (encA x ++ r) false = (true, r, false) := by
  have hb := byts_length x.S
  have e1 : sh 4 ((byts x.S).length : Int) = 0 := by rw [sh4]; omega
  unfold rdA encA
  by_cases h1 : x.K = 1
  · rw [if_pos h1, if_pos h1]
    obtain ⟨hk, hn⟩ : (x.W = 1 ∨ x.W = 2 ∨ x.W = 4 ∨ x.W = 8) ∧ sh x.W.toNat x.N = 0 := by
      rcases hx with ⟨_, h⟩ | ⟨h, _⟩ | h | h
      · exact okNum_iff h
      all_goals omega
    have hw : isW x.W = true := by rcases hk with h | h | h | h <;> rw [h] <;> rfl
    have e : rNum x.W (le x.W.toNat x.N ++ r) false = (x.N, r, false) := by
      unfold rNum
      rw [if_pos ⟨rfl, hw, by rw [List.length_append, le_length]; omega⟩, take_le, drop_le, num_back _ _ ho.2.2.2.2.1 hn]
    rw [e]
    simp
  rw [if_neg h1, if_neg h1]
  by_cases h2 : x.K = 2
  · rw [if_pos h2, if_pos h2]
    have h255 : x.S.size ≤ 255 := by
      rcases hx with ⟨h, _⟩ | ⟨_, h⟩ | h | h
      · omega
      · exact h
      all_goals omega
    rw [← hb, text_back 1 255 (byts x.S) r (by rw [sh1]; omega) (by omega)]
    simp
  rw [if_neg h2, if_neg h2]
  by_cases h3 : x.K = 3
  · rw [if_pos h3, if_pos h3, ← hb, text_back 4 _ (byts x.S) r e1 (Int.le_refl _)]
    simp
  rw [if_neg h3, if_neg h3, ← hb]
  have e : rRaw ((byts x.S).length : Int) (byts x.S ++ r) false = (byts x.S, r, false) := by
    unfold rRaw
    rw [if_pos ⟨rfl, by omega, by rw [List.length_append]; omega⟩, show (((byts x.S).length : Nat) : Int).toNat = (byts x.S).length by omega]
    simp
  rw [e]
  simp
/-- a byte less: the reader is bad -/
theorem rd_bad (x : ActD) (hx : okA x) (hs : x.S.size ≤ 1024) (hne : encA x ≠ []) : (rdA x (encA x).dropLast false).2.2 = true := by
  have hb := byts_length x.S
  unfold rdA
  unfold encA at hne ⊢
  by_cases h1 : x.K = 1
  · rw [if_pos h1, if_pos h1]
    obtain ⟨hk, hn⟩ : (x.W = 1 ∨ x.W = 2 ∨ x.W = 4 ∨ x.W = 8) ∧ sh x.W.toNat x.N = 0 := by
      rcases hx with ⟨_, h⟩ | ⟨h, _⟩ | h | h
      · exact okNum_iff h
      all_goals omega
    have e : rNum x.W (le x.W.toNat x.N).dropLast false = (0, (le x.W.toNat x.N).dropLast, true) := by
      unfold rNum
      rw [if_neg (by rintro ⟨_, _, h⟩; rw [List.length_dropLast, le_length] at h; omega)]
    rw [e]
  rw [if_neg h1, if_neg h1]
  rw [if_neg h1] at hne
  by_cases h2 : x.K = 2
  · rw [if_pos h2, if_pos h2]
    have h255 : x.S.size ≤ 255 := by
      rcases hx with ⟨h, _⟩ | ⟨_, h⟩ | h | h
      · omega
      · exact h
      all_goals omega
    have := text_bad 1 255 (byts x.S) (by rw [sh1]; omega) (by omega)
    rw [← hb]
    exact this
  rw [if_neg h2, if_neg h2]
  rw [if_neg h2] at hne
  by_cases h3 : x.K = 3
  · rw [if_pos h3, if_pos h3]
    have := text_bad 4 (byts x.S).length (byts x.S) (by rw [sh4]; omega) (by omega)
    rw [← hb]
    exact this
  rw [if_neg h3, if_neg h3]
  rw [if_neg h3] at hne
  have hp : 0 < (byts x.S).length := List.length_pos_iff.2 hne
  have e : rRaw ((byts x.S).length : Int) (byts x.S).dropLast false = ([], (byts x.S).dropLast, true) := by
    unfold rRaw
    rw [if_neg (by rintro ⟨_, _, h⟩; rw [List.length_dropLast] at h; omega)]
  rw [← hb, e]
theorem rd_stay (x : ActD) (l : List UInt8) : (rdA x l true).2.2 = true := by
  unfold rdA rNum rText rRaw
  split
  · simp
  split
  · simp
  split <;> simp
/-- a bad reader stays so -/
theorem back_bad : ∀ (xs : List ActD) (l : List UInt8), (backF xs l true).1 = false ∧ (backF xs l true).2.2 = true
  | [], _ => ⟨rfl, rfl⟩
  | x :: xs, l => by
    unfold backF
    have h := rd_stay x l
    split
    · rw [h]; exact back_bad xs _
    · exact ⟨rfl, h⟩
def Fine (x : ActD) : Prop := okA x ∧ x.Ok ∧ x.S.size ≤ 1024
theorem enc_cons (x : ActD) (xs : List ActD) : enc (x :: xs) = encA x ++ enc xs := rfl
theorem enc_snoc (xs : List ActD) (x : ActD) : enc (xs ++ [x]) = enc xs ++ encA x := by simp [enc]
theorem back_good : ∀ (xs : List ActD), (∀ x ∈ xs, Fine x) → backF xs (enc xs) false = (true, [], false)
  | [], _ => rfl
  | x :: xs, h => by
    obtain ⟨h1, h2, h3⟩ := h x (by simp)
    unfold backF
    rw [enc_cons, rd_back x h1 h2 h3, if_pos rfl]
    exact back_good xs fun y hy => h y (by simp [hy])
theorem back_short : ∀ (xs : List ActD), (∀ x ∈ xs, Fine x) → enc xs ≠ [] → (backF xs (enc xs).dropLast false).1 = false ∧ (backF xs (enc xs).dropLast false).2.2 = true
  | [], _, hne => absurd rfl hne
  | x :: xs, h, hne => by
    obtain ⟨h1, h2, h3⟩ := h x (by simp)
    rw [enc_cons] at hne ⊢
    unfold backF
    by_cases he : enc xs = []
    · rw [he, List.append_nil] at hne ⊢
      have hb := rd_bad x h1 h3 hne
      split
      · rw [hb]; exact back_bad xs _
      · exact ⟨rfl, hb⟩
    · rw [List.dropLast_append_of_ne_nil he, rd_back x h1 h2 h3, if_pos rfl]
      exact back_short xs (fun y hy => h y (by simp [hy])) he
end Bk
end Go.Proofs.Ytaddckdbhakgmaa
