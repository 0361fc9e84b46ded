/- quotients bit by bit, and the digits of a number: plain laws -/
import Derived.Test.YtmikhngmclngiaaDoorWv
namespace Go.Proofs.YtmikhngmclngiaaDoor
namespace Wide

/-- a number's two words -/
def nw (q : Nat) : WI := ⟨false, ((q / 18446744073709551616 : Nat) : Int), ((q % 18446744073709551616 : Nat) : Int)⟩
theorem nw_ok {q : Nat} (h : q < 340282366920938463463374607431768211456) : (nw q).Ok := by
  unfold nw WI.Ok
  dsimp only
  omega
theorem nw_sz (q : Nat) : (nw q).sz = q := by
  unfold nw WI.sz
  dsimp only
  omega
theorem nw_zero : nw 0 = zero := rfl

theorem dm (t m d : Nat) (h : m < t) : (m + t * d) / t = d ∧ (m + t * d) % t = m := by
  have ht : 0 < t := by omega
  rw [Nat.add_mul_div_left _ _ ht, Nat.add_mul_mod_self_left, Nat.div_eq_of_lt h, Nat.mod_eq_of_lt h, Nat.zero_add]
  exact ⟨rfl, rfl⟩
/-- one round of the division -/
theorem div_round (s t k : Nat) (ht : 0 < t) :
    (2 * (s / 2 ^ (k + 1) % t) + s / 2 ^ k % 2 < t → s / 2 ^ k / t = 2 * (s / 2 ^ (k + 1) / t) ∧ s / 2 ^ k % t = 2 * (s / 2 ^ (k + 1) % t) + s / 2 ^ k % 2) ∧
    (t ≤ 2 * (s / 2 ^ (k + 1) % t) + s / 2 ^ k % 2 → s / 2 ^ k / t = 2 * (s / 2 ^ (k + 1) / t) + 1 ∧ s / 2 ^ k % t = 2 * (s / 2 ^ (k + 1) % t) + s / 2 ^ k % 2 - t) := by
  have e : s / 2 ^ (k + 1) = s / 2 ^ k / 2 := by rw [Nat.pow_succ, Nat.div_div_eq_div_mul]
  rw [e]
  generalize s / 2 ^ k = u
  have h1 := Nat.div_add_mod u 2
  have h2 := Nat.div_add_mod (u / 2) t
  have h3 := Nat.mod_lt (u / 2) ht
  have h4 := Nat.mod_lt u (show 0 < 2 by decide)
  generalize u / 2 % t = r at *
  generalize u / 2 / t = q at *
  generalize u % 2 = b at *
  generalize u / 2 = v at *
  constructor
  · intro h
    have e : u = 2 * r + b + t * (2 * q) := by
      have : t * (2 * q) = 2 * (t * q) := by rw [← Nat.mul_assoc, ← Nat.mul_assoc, Nat.mul_comm t 2]
      omega
    rw [e]
    exact dm t _ _ h
  · intro h
    have e : u = (2 * r + b - t) + t * (2 * q + 1) := by
      have : t * (2 * q + 1) = 2 * (t * q) + t := by rw [Nat.mul_add, Nat.mul_one, ← Nat.mul_assoc, ← Nat.mul_assoc, Nat.mul_comm t 2]
      omega
    rw [e]
    exact dm t _ _ (by omega)
/-- the bit of a number of two words -/
theorem bit_high (h l k : Nat) (hk : 64 ≤ k) (hl : l < 18446744073709551616) : (h * 18446744073709551616 + l) / 2 ^ k % 2 = h / 2 ^ (k - 64) % 2 := by
  have e : (2 : Nat) ^ k = 18446744073709551616 * 2 ^ (k - 64) := by
    have : k = 64 + (k - 64) := by omega
    rw [this, Nat.pow_add, Nat.add_sub_cancel_left]
  rw [e, ← Nat.div_div_eq_div_mul, Nat.mul_comm h, Nat.mul_add_div (by decide), Nat.div_eq_of_lt hl, Nat.add_zero]
theorem bit_low (h l k : Nat) (hk : k < 64) : (h * 18446744073709551616 + l) / 2 ^ k % 2 = l / 2 ^ k % 2 := by
  have e : (18446744073709551616 : Nat) = 2 ^ k * (2 * 2 ^ (63 - k)) := by
    have h1 : (2 : Nat) * 2 ^ (63 - k) = 2 ^ (64 - k) := by
      have : 64 - k = (63 - k) + 1 := by omega
      rw [this, Nat.pow_succ, Nat.mul_comm]
    have h2 : (2 : Nat) ^ k * 2 ^ (64 - k) = 2 ^ 64 := by
      rw [← Nat.pow_add]
      congr 1
      omega
    rw [h1, h2]
  have hp : 0 < 2 ^ k := Nat.pos_of_ne_zero (by simp)
  rw [e, Nat.mul_left_comm, Nat.mul_add_div hp, Nat.mul_left_comm, Nat.mul_add_mod]
theorem quo_sign (n m : Bool) (s t : Int) : (neg n s).tdiv (neg m t) = neg (n != m) (s.tdiv t) := by
  unfold neg
  cases n <;> cases m <;> simp [Int.neg_tdiv, Int.tdiv_neg]
theorem rem_sign (n m : Bool) (s t : Int) : (neg n s).tmod (neg m t) = neg n (s.tmod t) := by
  unfold neg
  cases n <;> cases m <;> simp [Int.neg_tmod, Int.tmod_neg]

/-- the digits of a number -/
def digs (n : Nat) : List UInt8 := if n < 10 then [UInt8.ofNat (48 + n)] else digs (n / 10) ++ [UInt8.ofNat (48 + n % 10)]
/-- the digits that are still to be written, when some are -/
def more (n : Nat) : List UInt8 := if n = 0 then [] else digs n
def isDig (c : UInt8) : Bool := decide (48 ≤ c.toNat) && decide (c.toNat ≤ 57)
def valD (l : List UInt8) : Nat := l.foldl (fun a c => a * 10 + (c.toNat - 48)) 0
theorem digs_more (n : Nat) : digs n = more (n / 10) ++ [UInt8.ofNat (48 + n % 10)] := by
  rw [digs]
  unfold more
  by_cases h : n < 10
  · rw [if_pos h, if_pos (by omega), Nat.mod_eq_of_lt h]; rfl
  · rw [if_neg h, if_neg (by omega)]
theorem valD_snoc (l : List UInt8) (c : UInt8) : valD (l ++ [c]) = valD l * 10 + (c.toNat - 48) := by
  unfold valD
  rw [List.foldl_append]
  rfl
theorem dig_toNat {k : Nat} (h : k < 10) : (UInt8.ofNat (48 + k)).toNat = 48 + k := by
  rw [UInt8.toNat_ofNat']
  omega
theorem digs_val (n : Nat) : valD (digs n) = n := by
  induction n using Nat.strongRecOn with
  | ind n ih =>
    rw [digs]
    split
    · rename_i h
      show 0 * 10 + _ = _
      rw [dig_toNat h]
      omega
    · rename_i h
      rw [valD_snoc, ih (n / 10) (by omega), dig_toNat (Nat.mod_lt _ (by decide))]
      omega
theorem digs_all (n : Nat) : (digs n).all isDig = true := by
  induction n using Nat.strongRecOn with
  | ind n ih =>
    rw [digs]
    split
    · rename_i h
      simp only [List.all_cons, List.all_nil, Bool.and_true, isDig, dig_toNat h]
      simp
      omega
    · rename_i h
      have h2 := Nat.mod_lt n (show 0 < 10 by decide)
      rw [List.all_append, ih (n / 10) (by omega), Bool.true_and]
      simp only [List.all_cons, List.all_nil, Bool.and_true, isDig, dig_toNat h2]
      simp
      omega
theorem digs_ne (n : Nat) : digs n ≠ [] := by
  rw [digs]
  split
  · simp
  · simp
theorem digs_len (k n : Nat) (h : n < 10 ^ (k + 1)) : (digs n).length ≤ k + 1 := by
  induction k generalizing n with
  | zero => rw [digs, if_pos (by simpa using h)]; exact Nat.le_refl 1
  | succ k ih =>
    rw [digs]
    split
    · show 1 ≤ _; omega
    · rw [List.length_append]
      have : n / 10 < 10 ^ (k + 1) := by rw [Nat.pow_succ] at h; omega
      have := ih _ this
      simp only [List.length_cons, List.length_nil]
      omega
theorem digs_head (n : Nat) (hn : n ≠ 0) : (digs n).head? ≠ some 48 := by
  induction n using Nat.strongRecOn with
  | ind n ih =>
    rw [digs]
    split
    · rename_i h
      intro hh
      have h1 : UInt8.ofNat (48 + n) = 48 := by simpa using hh
      have h2 := congrArg UInt8.toNat h1
      rw [dig_toNat h] at h2
      have : (48 : UInt8).toNat = 48 := rfl
      omega
    · rename_i h
      have := ih (n / 10) (by omega) (by omega)
      rw [List.head?_append]
      cases hd : (digs (n / 10)).head? with
      | none => exact absurd (List.head?_eq_none_iff.1 hd) (digs_ne _)
      | some c => rw [hd] at this; simpa using this
end Wide
end Go.Proofs.YtmikhngmclngiaaDoor
