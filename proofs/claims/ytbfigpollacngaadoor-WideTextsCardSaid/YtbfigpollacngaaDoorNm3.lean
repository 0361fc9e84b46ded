/- numbers of digits: plain laws of products and quotients -/
import Derived.Test.YtbfigpollacngaaDoorNm2
namespace Go.Proofs.YtbfigpollacngaaDoor
namespace Wide

theorem valN_nn {l : List Int} (h : Dig l) : 0 ≤ valN l := (valN_bd h).1
/-- a number of k digits behind which there are none -/
theorem mul_lt' {a b A B : Int} (ha0 : 0 ≤ a) (hb0 : 0 ≤ b) (ha : a < A) (hb : b < B) : a * b < A * B := by
  have h1 : a * b ≤ a * B := Int.mul_le_mul_of_nonneg_left (by omega) ha0
  have h2 : a * B < A * B := Int.mul_lt_mul_of_pos_right ha (by omega)
  omega
/-- one more digit of a product's row -/
theorem row_step (o b : List Int) (p j : Nat) (hp : p < o.length) (hj : j < b.length) (c a T : Int)
    (h : valN o + 256 ^ p * c + a * 256 ^ p * valN (b.drop j) = T) :
    valN (o.set p ((o[p] + c + a * b[j]) % 256)) + 256 ^ (p + 1) * ((o[p] + c + a * b[j]) / 256) + a * 256 ^ (p + 1) * valN (b.drop (j + 1)) = T := by
  have h2 := times_step o p hp c (a * b[j]) (T - a * 256 ^ (p + 1) * valN (b.drop (j + 1))) (by
    rw [valN_drop b j hj] at h
    rw [Int.pow_succ]
    generalize valN (b.drop (j + 1)) = q at *
    generalize b[j] = d at *
    generalize (256 : Int) ^ p = P at *
    have e1 : a * P * (d + 256 * q) = P * (a * d) + a * (P * 256) * q := by
      rw [Int.mul_add]
      congr 1
      · rw [Int.mul_comm a P, Int.mul_assoc]
      · rw [← Int.mul_assoc, Int.mul_assoc a P 256]
    omega)
  omega
/-- ... where there is no digit more -/
theorem row_step0 (o b : List Int) (p j : Nat) (hp : p < o.length) (hb : valN (b.drop j) = 0) (hb2 : valN (b.drop (j + 1)) = 0) (c a T : Int)
    (h : valN o + 256 ^ p * c + a * 256 ^ p * valN (b.drop j) = T) :
    valN (o.set p ((o[p] + c) % 256)) + 256 ^ (p + 1) * ((o[p] + c) / 256) + a * 256 ^ (p + 1) * valN (b.drop (j + 1)) = T := by
  have h2 := times_step o p hp c 0 T (by rw [hb] at h; omega)
  rw [hb2]
  rw [Int.add_zero] at h2
  omega
/-- a carry behind the last digit: the row is not longer -/
theorem row_carry {o : List Int} {p n : Nat} {c X T : Int} (ho : 0 ≤ valN o) (hX : 0 ≤ X) (hc : 0 < c) (h : valN o + 256 ^ p * c + X = T) (hT : T < 256 ^ n) : p < n := by
  rcases Nat.lt_or_ge p n with h1 | h1
  · exact h1
  · exfalso
    obtain ⟨k, rfl⟩ := Nat.exists_eq_add_of_le h1
    have hp := pow_pos256 k
    have hn := pow_pos256 n
    rw [Int.pow_add] at h
    generalize (256 : Int) ^ n = N at *
    generalize (256 : Int) ^ k = K at *
    have e1 : N * 1 ≤ N * K := Int.mul_le_mul_of_nonneg_left hp (by omega)
    have e2 : N * K * 1 ≤ N * K * c := Int.mul_le_mul_of_nonneg_left (by omega) (by omega)
    omega
theorem prod_bd {a b : Int} (ha : 0 ≤ a ∧ a ≤ 255) (hb : 0 ≤ b ∧ b ≤ 255) : 0 ≤ a * b ∧ a * b ≤ 65025 := by
  refine ⟨Int.mul_nonneg ha.1 hb.1, ?_⟩
  have h1 : a * b ≤ a * 255 := Int.mul_le_mul_of_nonneg_left hb.2 ha.1
  omega
theorem row_start (d e : List Int) (i : Nat) (hi : i < d.length) (o : List Int) (h : valN o = valN (d.take i) * valN e) :
    valN o + 256 ^ (i + 0) * 0 + d[i] * 256 ^ (i + 0) * valN (e.drop 0) = valN (d.take (i + 1)) * valN e := by
  rw [valN_take d i hi, h, List.drop_zero, Nat.add_zero, Int.mul_zero, Int.add_zero, Int.add_mul, Int.mul_comm d[i]]
theorem row_end {o e : List Int} {p j : Nat} {a T : Int} (he : valN (e.drop j) = 0) (h : valN o + 256 ^ p * 0 + a * 256 ^ p * valN (e.drop j) = T) : valN o = T := by
  rw [he] at h; omega
theorem take_bd {d : List Int} (hd : Dig d) (n : Nat) (hn : n ≤ d.length) : 0 ≤ valN (d.take n) ∧ valN (d.take n) < 256 ^ n := by
  have := valN_bd (hd.take n)
  rwa [List.length_take, Nat.min_eq_left hn] at this
theorem row_lt {d e : List Int} (hd : Dig d) (he0 : 0 ≤ valN e) (n : Nat) (hn : n ≤ d.length) (he : valN e < 256 ^ 16) : valN (d.take n) * valN e < 256 ^ (n + 16) := by
  obtain ⟨h1, h2⟩ := take_bd hd n hn
  rw [Int.pow_add]
  exact mul_lt' h1 he0 h2 he
theorem drop_zero_of {e : List Int} (he : Dig e) (n : Nat) (h : valN e < 256 ^ n) (hn : n ≤ e.length) : valN (e.drop n) = 0 := by
  have h1 := valN_cut e n hn
  have h2 := take_bd he n hn
  have h3 := valN_nn (he.drop n)
  have h4 := pow_pos256 n
  rcases Int.lt_or_le 0 (valN (e.drop n)) with h5 | h5
  · have : (256 : Int) ^ n * 1 ≤ 256 ^ n * valN (e.drop n) := Int.mul_le_mul_of_nonneg_left (by omega) (by omega)
    omega
  · omega
theorem drop_zero_more {e : List Int} (he : Dig e) (n : Nat) (h : valN (e.drop n) = 0) (m : Nat) (hm : n ≤ m) : valN (e.drop m) = 0 := by
  obtain ⟨k, rfl⟩ := Nat.exists_eq_add_of_le hm
  induction k with
  | zero => exact h
  | succ k ih =>
    have ih := ih (by omega)
    by_cases hl : n + k < e.length
    · rw [valN_drop e (n + k) hl] at ih
      have h1 := he.get (n + k) hl
      have h2 := valN_nn (he.drop (n + k + 1))
      rw [show n + (k + 1) = n + k + 1 by omega]
      omega
    · rw [List.drop_of_length_le (by omega)]; rfl
/-- the end of a product -/
theorem times_end (o d e : List Int) (ho : o.length = 40) (hoD : Dig o) (hd : Dig d) (h1 : d.length = 40) (hlt : valN d < 256 ^ 16) (h : valN o = valN (d.take 16) * valN e) : o = digN 40 (valN d * valN e) := by
  have h2 := valN_cut d 16 (by omega)
  rw [drop_zero_of hd 16 hlt (by omega)] at h2
  have := dig_of_val o hoD
  rw [ho, h] at this
  rw [h2, Int.mul_zero, Int.add_zero]
  exact this
/-- a row that is moved up by one -/
def upD (r : List Int) (k : Nat) : List Int := r.take (k + 1) ++ (r.drop k).take (39 - k)
theorem upD_length (r : List Int) (h : r.length = 40) (k : Nat) (hk : k ≤ 39) : (upD r k).length = 40 := by
  simp [upD, h]; omega
theorem upD_start (r : List Int) (h : r.length = 40) : upD r 39 = r := by
  unfold upD
  rw [Nat.sub_self, List.take_zero, List.append_nil, List.take_of_length_le (by omega)]
theorem upD_get (r : List Int) (h : r.length = 40) (k : Nat) (hk : k < 39) (hl : k < (upD r (k + 1)).length) : (upD r (k + 1))[k] = r[k]'(by omega) := by
  have h2 : (upD r (k + 1))[k]? = r[k]? := by
    unfold upD
    rw [List.getElem?_append_left (by simp [h]; omega), List.getElem?_take_of_lt (by omega)]
  rw [List.getElem?_eq_getElem hl, List.getElem?_eq_getElem (by omega)] at h2
  exact Option.some.inj h2
theorem upD_step (r : List Int) (h : r.length = 40) (k : Nat) (hk : k < 39) : (upD r (k + 1)).set (k + 1) (r[k]'(by omega)) = upD r k := by
  have e1 : r.take (k + 1 + 1) = r.take (k + 1) ++ [r[k + 1]'(by omega)] := List.take_succ_eq_append_getElem (by omega)
  have e2 : (r.drop k).take (39 - k) = r[k]'(by omega) :: (r.drop (k + 1)).take (39 - (k + 1)) := by
    rw [List.drop_eq_getElem_cons (by omega), show 39 - k = (39 - (k + 1)) + 1 by omega, List.take_succ_cons]
  unfold upD
  rw [e1, e2, List.append_assoc, List.set_append_right _ _ (by simp [h]; omega)]
  congr 1
  simp [h]
  rw [show k + 1 - min (k + 1) 40 = 0 by omega]
  rfl
theorem upD_end (r : List Int) (h : r.length = 40) (a : Int) : (upD r 0).set 0 a = a :: r.take 39 := by
  obtain ⟨x, l, rfl⟩ : ∃ x l, r = x :: l := by
    cases r with
    | nil => cases h
    | cons x l => exact ⟨x, l, rfl⟩
  simp [upD]
theorem Dig.upD {r : List Int} (h : Dig r) (k : Nat) : Dig (upD r k) := (h.take _).append ((h.drop _).take _)
/-- the moved row's number -/
theorem up_val (r : List Int) (hr : Dig r) (h : r.length = 40) (a : Int) (hlt : valN r < 256 ^ 39) : valN (a :: r.take 39) = a + 256 * valN r := by
  rw [valN, valN_cut r 39 (by omega), drop_zero_of hr 39 hlt (by omega)]
  omega
theorem up_dig (r : List Int) (hr : Dig r) (a : Int) (ha : 0 ≤ a ∧ a ≤ 255) : Dig (a :: r.take 39) := fun c hc => by
  rcases List.mem_cons.1 hc with rfl | h1
  · exact ha
  · exact hr.take 39 c h1
theorem up_len (r : List Int) (h : r.length = 40) (a : Int) : (a :: r.take 39).length = 40 := by simp [h]
/-- one more digit of a quotient: what stood above, its rest, and the digit -/
theorem quo_step (A B Q R d c V : Int) (hA : A = Q * B + R) (hV : V + c * B = d + 256 * R) : d + 256 * A = (c + 256 * Q) * B + V := by
  rw [Int.add_mul, hA, Int.mul_add, ← Int.mul_assoc]
  omega
theorem quo_end (A B Q R : Int) (hB : 0 < B) (hA : A = Q * B + R) (h0 : 0 ≤ R) (h1 : R < B) : Q = A / B ∧ R = A % B := by
  have e := Int.add_mul_ediv_right R Q (c := B) (by omega)
  rw [Int.add_comm, ← hA] at e
  have e2 : R / B = 0 := Int.ediv_eq_zero_of_lt h0 h1
  refine ⟨by omega, ?_⟩
  have e3 := Int.add_mul_emod_self_right R Q B
  rw [Int.add_comm, ← hA, Int.emod_eq_of_lt h0 h1] at e3
  exact e3.symm
/-- a digit of a quotient is one -/
theorem quo_dig {B R d c V : Int} (hB : 0 < B) (hR : R < B) (hd : 0 ≤ d ∧ d ≤ 255) (hV0 : 0 ≤ V) (hV : V + c * B = d + 256 * R) : c ≤ 255 := by
  rcases Int.lt_or_le 255 c with h | h
  · have : 256 * B ≤ c * B := Int.mul_le_mul_of_nonneg_right (by omega) (by omega)
    omega
  · exact h
theorem set_drop (q : List Int) (i : Nat) (hi : i < q.length) (c : Int) : (q.set i c).drop i = c :: q.drop (i + 1) := by
  rw [List.drop_eq_getElem_cons (by simpa using hi), List.getElem_set_self, List.drop_set_of_lt (Nat.lt_succ_self i)]
end Wide
end Go.Proofs.YtbfigpollacngaaDoor
